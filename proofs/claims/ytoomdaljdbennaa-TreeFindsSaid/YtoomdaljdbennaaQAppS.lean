/- Appends of structs to a slice of the call's own; what owned rows bear. -/
import Derived.Test.YtoomdaljdbennaaKA
set_option linter.unusedSimpArgs false
set_option linter.unusedVariables false
namespace Go.Proofs.Ytoomdaljdbennaa.Kit
open Go.RowKit
/-- append(out, x) of a struct that has just been laid, where the call owns out -/
theorem appS {P : Program} {ops : Array Oper} {rest : List Oper} {o : Oper} {a : Act} {w : World} {Q : Exit → Act → World → Prop} {e : TypeId} {cs : List Value} (hgd : o.guard = none) (s x : Operand) (t : TypeId) (size bytes : Nat) (z : Value)
    (ho : o.op = .call { callee := .builtin .append, args := #[s, x], argTypes := #[t, t] }) (ht : P.underlying t = some (.slice e))
    (hinf : (P.info? e).map (fun i => (i.zero, i.size, i.bytes)) = some (some z, size, bytes)) (hzs : z.cells.size = size) (hsz : 0 < size) (hby : 0 < bytes)
    {base n c : Nat} {A : Option Addr} {xs : List Value} (hs : a.eval s = .slice A n c) (hown : w.ownsRow base e size (.slice A n c) n xs) (hcs : cs.length = size) (h1 : ∀ u ∈ cs, u.oneCell' = true)
    {S c2 : Nat} (hx : a.eval x = .slice (some ⟨S, 0, none⟩) 1 c2) (hS : w.heap.size = S) (hlim : (n + 1) * bytes ≤ 140737488355328) (hbase : base ≤ w.heap.size)
    (h : ∀ A' c' w', w'.ownsRow base e size (.slice A' (n + 1) c') (n + 1) (xs ++ cs) → (w.alloc (.cells cs.toArray e)).grownBy w' (Value.slice A n c).ownBlock → Below base w w' →
      ((Value.slice A' (n + 1) c').ownBlock = (Value.slice A n c).ownBlock ∨ (Value.slice A' (n + 1) c').ownBlock = some (S + 1)) → wpList P ops Q rest (a.put o.dst (.slice A' (n + 1) c')) w') :
    wpList P ops Q (o :: rest) a (w.alloc (.cells cs.toArray e)) := by
  subst hS
  obtain ⟨i, hi, hz, hsz', hby'⟩ := info_parts hinf
  have hown' := hown.alloc (.cells cs.toArray e)
  have h63 : n + 1 ≤ maxLen := by
    have : n + 1 ≤ (n + 1) * bytes := Nat.le_mul_of_pos_right _ hby
    unfold maxLen; omega
  have hnews : ∀ j u, cs[j]? = some u → (w.alloc (.cells cs.toArray e)).cell? ((⟨w.heap.size, 0, none⟩ : Addr).add j) = some u := by
    intro j u hu
    rw [add_plain, Nat.zero_add, cell_of_row _ w.heap.size j _ _ _ (heap_alloc_new w _)]
    simpa using hu
  obtain ⟨v', w', hrun, h2, h3, h4, h5⟩ := run_append_own_at (P := P) (w.alloc (.cells cs.toArray e)) base t o.type e i z size bytes ht hi hz hsz' hby' hzs hsz (.slice A n c) n xs hown' ⟨w.heap.size, 0, none⟩ 1 c2 cs (by rw [hcs]; omega) hnews h1 h63 hlim (by simp; omega)
  have hb : Below base w w' := by
    refine ((Below.refl _ _).alloc hbase _).grown h3 (by simp; omega) (fun k hk => ?_)
    rcases hown.2 with ⟨hv, _⟩ | ⟨g, cap, cur, hv, hg', _⟩
    · injection hv with h1; subst h1; cases hk
    · injection hv with h1; subst h1; simp [Value.ownBlock] at hk; omega
  have hv : ∃ A' c', v' = .slice A' (n + 1) c' := by
    rcases Joins.ownsRow_forms h2 with ⟨_, h0⟩ | ⟨g, cap, hv⟩
    · omega
    · exact ⟨_, _, hv⟩
  obtain ⟨A', c', rfl⟩ := hv
  refine wpList_plain hgd fun _ hK => ?_
  unfold Oper.wp execOp
  simp only [ho, resolve, invoke, builtin, Sem.run_bind, Sem.run_pure, Result.andThen_ok, List.map_toArray, List.map_cons, List.map_nil, hs, hx, hrun]
  exact hK _ _ (h A' c' w' h2 h3 hb (by simpa using h5))
theorem owns_below {w w' : World} {base n size : Nat} {e : TypeId} {v : Value} {xs : List Value} (h : w.ownsRow base e size v n xs) {B : Nat} (hb : Below B w w') (hB : w.heap.size ≤ B) : w'.ownsRow base e size v n xs := by
  refine ⟨h.1, ?_⟩
  rcases h.2 with hn | ⟨g, cap, cur, rfl, hg, hgg, rest⟩
  · exact .inl hn
  · exact .inr ⟨g, cap, cur, rfl, hg, (hb.block g (Nat.lt_of_lt_of_le (Blk_lt hgg) hB)).trans hgg, rest⟩
theorem owns_mono {w : World} {base base' n size : Nat} {e : TypeId} {v : Value} {xs : List Value} (h : w.ownsRow base e size v n xs) (hb : base' ≤ base) : w.ownsRow base' e size v n xs := by
  refine ⟨h.1, ?_⟩
  rcases h.2 with hn | ⟨g, cap, cur, rfl, hg, rest⟩
  · exact .inl hn
  · exact .inr ⟨g, cap, cur, rfl, Nat.le_trans hb hg, rest⟩
/-- a block that is none of the slice's, behind an append -/
theorem far_own {w w' : World} {base n c size b : Nat} {e : TypeId} {A : Option Addr} {xs : List Value} {v : World} {o : Obj} (hown : v.ownsRow base e size (.slice A n c) n xs) (hg : w.grownBy w' (Value.slice A n c).ownBlock)
    (hb : w.heap[b]? = some o) (hf : b < base ∨ v.heap.size ≤ b) : w'.heap[b]? = some o := by
  refine (hg.block b (Blk_lt hb) (fun e => ?_)).trans hb
  have := World.ownsRow.lt hown b e.symm
  omega
end Go.Proofs.Ytoomdaljdbennaa.Kit
