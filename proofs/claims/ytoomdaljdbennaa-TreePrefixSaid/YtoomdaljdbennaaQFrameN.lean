/- What an argument gives: a tree by value. -/
import Derived.Deep.Slices
import Derived.Lib.SmallJoins
import Derived.Test.YtoomdaljdbennaaKA
import Derived.Test.YtoomdaljdbennaaKX
set_option linter.unusedSimpArgs false
set_option linter.unusedVariables false
namespace Go.Proofs.Ytoomdaljdbennaa.Opn
open Go.Joins Go.ChangeShapes Go.WideShapes Go.ChangeAt Go.RowKit Go.Deep Kit Tree

theorem blk_cell {w : World} {a : Addr} {v : Value} (h : w.cell? a = some v) : a.block < w.heap.size := by
  rcases Nat.lt_or_ge a.block w.heap.size with h1 | h1
  · exact h1
  · unfold World.cell? at h
    simp [Array.getElem?_eq_none h1] at h
theorem node_up {w : World} {P : Nat → Prop} : ∀ {d : Nat} {v : Value} {t : T}, NodeR d w P v t → NodeR (d + 1) w P v t
  | 0, v, t, h => by obtain ⟨A, c, K, ck, h1, h2, h3, h4, h5⟩ := h; exact ⟨A, c, K, ck, [], h1, h2, h3, h4, (fun j u hj => by simp at hj), by rw [h5]; rfl⟩
  | d + 1, v, t, h => by obtain ⟨A, c, K, ck, xs, h1, h2, h3, h4, h5, h6⟩ := h; exact ⟨A, c, K, ck, xs, h1, h2, h3, h4, h5, RowR.imp (fun _ _ => node_up) h6⟩
theorem rows_of {w : World} {N : Value → T → Prop} (g : Addr) : ∀ (len : Nat), (∀ i, i < len → ∃ x0 x1 x2 x3 x4 t, N (.agg #[x0, x1, x2, x3, x4]) t ∧ ∀ j, j < 5 → w.cell? (g.add (i * 5 + j)) = [x0, x1, x2, x3, x4][j]?) →
    ∃ (ts : List T) (xs : List Value), ts.length = len ∧ RowR N ts xs ∧ ∀ j u, xs[j]? = some u → w.cell? (g.add j) = some u
  | 0, _ => ⟨[], [], rfl, rfl, by simp⟩
  | len + 1, h => by
    obtain ⟨ts, xs, h1, h2, h3⟩ := rows_of g len (fun i hi => h i (by omega))
    obtain ⟨x0, x1, x2, x3, x4, t, hn, hc⟩ := h len (by omega)
    have hl := RowR.len h2
    refine ⟨ts ++ [t], xs ++ [x0, x1, x2, x3, x4], by simp [h1], RowR.snoc hn h2, fun j u hj => ?_⟩
    rcases Nat.lt_or_ge j xs.length with hlt | hge
    · rw [List.getElem?_append_left hlt] at hj; exact h3 j u hj
    · rw [List.getElem?_append_right hge] at hj
      have hj5 : j - xs.length < 5 := by
        rcases Nat.lt_or_ge (j - xs.length) 5 with a | a
        · exact a
        · rw [List.getElem?_eq_none (by simpa using a)] at hj; cases hj
      have hcj := hc (j - xs.length) hj5
      rw [hj, show len * 5 + (j - xs.length) = j from by omega] at hcj
      exact hcj

set_option maxRecDepth 100000 in
theorem node_trod {H : Type} {enc : TypeId × Value → H} {w : World} {base : Nat} {spare : Nat → Bool} {held : Bool} : ∀ (fuel : Nat) (cs : List Value) (x : DataW H × List MemPlace), DataW.trod enc Try.prog w base spare held fuel 26 cs = some x →
    ∃ x0 x1 x2 x3 x4 t, cs = [x0, x1, x2, x3, x4] ∧ NodeR fuel w (fun b => b < w.heap.size) (.agg #[x0, x1, x2, x3, x4]) t := by
  intro fuel
  induction fuel using Nat.strongRecOn with
  | _ fuel ih =>
    intro cs x h
    obtain ⟨ys, n, hfn, _, hcl, hlen, hg⟩ := DataW.trod_struct Try.underlying26 h
    have hC : (Try.prog.cellsOf 26) = 5 := by kernel_rfl
    match cs, hcl.trans hC with
    | [c0, c1, c2, c3, c4], _ =>
      match ys, hlen with
      | [y0, y1, y2, y3, y4], _ =>
        have k0 : Try.prog.cellsOf 3 = 1 := by kernel_rfl
        have k2 : Try.prog.cellsOf 4 = 1 := by kernel_rfl
        have k3 : Try.prog.cellsOf 22 = 1 := by kernel_rfl
        have k4 : Try.prog.cellsOf 24 = 1 := by kernel_rfl
        have g0 : DataW.trod enc Try.prog w base spare held n 3 [c0] = some y0 := by
          have q : DataW.trod enc Try.prog w base spare held n 3 (List.take (Try.prog.cellsOf 3) (List.drop 0 [c0, c1, c2, c3, c4])) = some y0 := hg 0 _ rfl
          rw [k0] at q
          exact q
        have g1 : DataW.trod enc Try.prog w base spare held n 3 [c1] = some y1 := by
          have q : DataW.trod enc Try.prog w base spare held n 3 (List.take (Try.prog.cellsOf 3) (List.drop 1 [c0, c1, c2, c3, c4])) = some y1 := hg 1 _ rfl
          rw [k0] at q
          exact q
        have g2 : DataW.trod enc Try.prog w base spare held n 4 [c2] = some y2 := by
          have q : DataW.trod enc Try.prog w base spare held n 4 (List.take (Try.prog.cellsOf 4) (List.drop 2 [c0, c1, c2, c3, c4])) = some y2 := hg 2 _ rfl
          rw [k2] at q
          exact q
        have g3 : DataW.trod enc Try.prog w base spare held n 22 [c3] = some y3 := by
          have q : DataW.trod enc Try.prog w base spare held n 22 (List.take (Try.prog.cellsOf 22) (List.drop 3 [c0, c1, c2, c3, c4])) = some y3 := hg 3 _ rfl
          rw [k3] at q
          exact q
        have g4 : DataW.trod enc Try.prog w base spare held n 24 [c4] = some y4 := by
          have q : DataW.trod enc Try.prog w base spare held n 24 (List.take (Try.prog.cellsOf 24) (List.drop 4 [c0, c1, c2, c3, c4])) = some y4 := hg 4 _ rfl
          rw [k4] at q
          exact q
        obtain ⟨x0, e0, _, w0⟩ := DataW.trod_int Try.underlying3 g0
        obtain ⟨x1, e1, _, w1⟩ := DataW.trod_int Try.underlying3 g1
        obtain ⟨x2, e2, _⟩ := DataW.trod_bool Try.underlying4 g2
        simp only [List.cons.injEq, and_true] at e0 e1 e2
        subst e0 e1 e2
        have hcon : ∃ (A : Option Addr) (c : Nat) (l : List UInt8), c3 = .slice A l.length c ∧ RdP w (fun b => b < w.heap.size) A l.length l ∧ l.length ≤ c ∧ c ≤ maxLen := by
          rcases open_ints Try.underlying22 Try.underlying5 (by kernel_rfl) g3 with ⟨hcs, _⟩ | ⟨a, l, c, zs, hcs, _, hl, hm, hz, _, hcell, hwz⟩
          · simp only [List.cons.injEq, and_true] at hcs
            exact ⟨none, 0, [], hcs, RdP.nil_ _ _, Nat.zero_le _, Nat.zero_le _⟩
          · simp only [List.cons.injEq, and_true] at hcs
            have hr := rd_of_cells (w := w) (x := a) (len := l) (zs := zs) (by rw [hz]; split <;> omega) hcell hwz
            have hll := hr.len
            refine ⟨some a, c, _, by rw [hll]; exact hcs, ?_, by omega, hm⟩
            rw [hll]
            exact ⟨hll, hr.2⟩
        have hkid : ∃ (K : Option Addr) (ck : Nat) (ts : List T) (xs : List Value), c4 = .slice K ts.length ck ∧ CellsP w (fun b => b < w.heap.size) K xs ∧ RowR (NodeR n w (fun b => b < w.heap.size)) ts xs := by
          rcases DataW.trod_slice Try.underlying24 g4 with ⟨hcs, _⟩ | ⟨a, len, cap, elems, rest, m, hnm, hcs, _, hb, hl, hm, hlen, hel, hsp, hns⟩
          · simp only [List.cons.injEq, and_true] at hcs
            exact ⟨none, 0, [], [], hcs, (fun j u hj => by simp at hj), rfl⟩
          · simp only [List.cons.injEq, and_true] at hcs
            have each : ∀ i, i < len → ∃ x0 x1 x2 x3 x4 t, NodeR n w (fun b => b < w.heap.size) (.agg #[x0, x1, x2, x3, x4]) t ∧ ∀ j, j < 5 → w.cell? (a.add (i * 5 + j)) = [x0, x1, x2, x3, x4][j]? := by
              intro i hi
              have h1 := hel i hi
              rw [hC, List.getElem?_eq_getElem (by omega)] at h1
              simp only [Option.bind_eq_some_iff] at h1
              obtain ⟨cs', h2, h3⟩ := h1
              obtain ⟨_, hl5, hcell⟩ := World.cells?_some h2
              obtain ⟨z0, z1, z2, z3, z4, t, rfl, hn⟩ := ih m (by omega) _ _ h3
              refine ⟨z0, z1, z2, z3, z4, t, by rw [hnm]; exact node_up hn, fun j hj => ?_⟩
              have := hcell j hj
              rwa [Kit.add_add] at this
            obtain ⟨ts, xs, t1, t2, t3⟩ := rows_of a len each
            refine ⟨some a, cap, ts, xs, by rw [t1]; exact hcs, fun j u hj => ⟨a, rfl, ?_, t3 j u hj⟩, t2⟩
            have := blk_cell (t3 j u hj)
            rwa [Tree.add_block] at this
        obtain ⟨A, c, l, rfl, r1, r2, r3⟩ := hcon
        obtain ⟨K, ck, ts, xs, rfl, s1, s2⟩ := hkid
        refine ⟨_, _, _, _, _, .mk x0 x1 x2 l ts, rfl, ?_⟩
        rw [hfn]
        exact ⟨A, c, K, ck, xs, rfl, r1, r2, r3, s1, s2⟩
theorem node_arg {H : Type} {enc : TypeId × Value → H} {w : World} {base : Nat} {spare : Nat → Bool} {held : Bool} {r : Reach} {b0 : Nat} {v : Value} {d : DataW H} {p : List MemPlace}
    (hv : Value.okWide Try.prog w r b0 26 v) (h : DataW.Trod enc Try.prog w base spare held 26 v d p) : ∃ (d : Nat) (t : T), NodeR d w (fun b => b < w.heap.size) v t := by
  obtain ⟨cs, rfl, hsz⟩ := okWide_struct Try.underlying26 hv
  obtain ⟨fuel, hf⟩ := h
  obtain ⟨x0, x1, x2, x3, x4, t, e, hn⟩ := node_trod fuel _ _ hf
  refine ⟨fuel, t, ?_⟩
  simp only [Value.cells] at e
  obtain ⟨l⟩ := cs
  simp only at e
  subst e
  exact hn
end Go.Proofs.Ytoomdaljdbennaa.Opn
