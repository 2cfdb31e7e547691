/- Walks: slices.Insert of one byte ahead of a row that the call owns. -/
import Derived.Test.YtiogcdpmgomllaaDecB
import Derived.Lib.AppendZerosOnto
import Derived.Lib.Overlaps
import Derived.Laws.IdiomCopy
import Derived.Laws.NewBlocks
set_option linter.unusedSimpArgs false
set_option linter.unusedVariables false
namespace Go.Proofs.Ytiogcdpmgomllaa.Int4
open Go.RowKit Kit Tlv

/-- a row with cells set one by one -/
def setA (cur : Array Value) : Nat → List Value → Array Value
  | _, [] => cur
  | o, v :: r => setA (cur.setIfInBounds o v) (o + 1) r
theorem setA_size : ∀ (vs : List Value) (o : Nat) (cur : Array Value), (setA cur o vs).size = cur.size
  | [], _, _ => rfl
  | v :: r, o, cur => by rw [setA, setA_size r]; simp
theorem heap_setCells {g : Nat} {e : TypeId} : ∀ (vs : List Value) (o : Nat) (w : World) (cur : Array Value), w.heap[g]? = some (.cells cur e (0, 0)) → (w.setCells g o vs).heap[g]? = some (.cells (setA cur o vs) e (0, 0))
  | [], _, _, _, h => h
  | v :: r, o, w, cur, h => by rw [World.setCells, setA]; exact heap_setCells r (o + 1) _ _ (heap_setCell_same w g o cur _ _ h)
theorem below_setCells {B : Nat} {w : World} {g : Nat} (hg : B ≤ g) : ∀ (vs : List Value) (o : Nat) (w' : World), Below B w w' → Below B w (w'.setCells g o vs)
  | [], _, _, h => h
  | v :: r, o, w', h => by rw [World.setCells]; exact below_setCells hg r (o + 1) _ (Below.setCell h (p := ⟨g, o, none⟩) hg v)
theorem size_setCells (g : Nat) : ∀ (vs : List Value) (o : Nat) (w : World), (w.setCells g o vs).heap.size = w.heap.size
  | [], _, _ => rfl
  | v :: r, o, w => by rw [World.setCells, size_setCells g r]; simp [World.setCell]
theorem own_of_cells {w : World} {base g n c : Nat} {cur : Array Value} {l : List UInt8} (hg : w.heap[g]? = some (.cells cur 5 (0, 0))) (hs : cur.size = c) (hb : base ≤ g) (hn : n ≤ c) (hm : c ≤ maxLen) (hl : l.length = n)
    (hc : ∀ k, k < n → w.cell? ⟨g, k, none⟩ = some (.int .u8 (bt l k))) : Own w base (some ⟨g, 0, none⟩) n c l := by
  refine ⟨by rw [vs_length]; omega, .inr ⟨g, c, cur, rfl, hb, hg, hn, hm, by omega, ?_⟩⟩
  rw [Nat.mul_one]
  apply List.ext_getElem?
  intro k
  rcases Nat.lt_or_ge k n with hk | hk
  · rw [List.getElem?_take_of_lt hk, Array.getElem?_toList, vs_get (by omega), ← hc k hk, cell_of_row w g k _ _ _ hg]
  · rw [List.getElem?_eq_none (by simp; omega), List.getElem?_eq_none (by rw [vs_length]; omega)]
theorem own_block {w : World} {base g n c : Nat} {l : List UInt8} (h : Own w base (some ⟨g, 0, none⟩) n c l) : ∃ cur, w.heap[g]? = some (.cells cur 5 (0, 0)) ∧ cur.size = c := by
  rcases h.2 with ⟨hv, _⟩ | ⟨g', cap', cur, hv, _, hg, hn, _, hs, _⟩
  · simp at hv
  · simp only [Value.slice.injEq, Option.some.injEq, Addr.mk.injEq, and_true, true_and] at hv
    obtain ⟨rfl, rfl⟩ := hv
    exact ⟨cur, hg, by omega⟩

theorem wp_copy_run (w : World) {o : Oper} {a : Act} {K : Act → World → Prop} {Q : Exit → Act → World → Prop} (d s : Operand) (t t' : TypeId)
    (ho : o.op = .call { callee := .builtin .copy, args := #[d, s], argTypes := #[t, t'] }) (v u : Value) (hd : a.eval d = v) (hs : a.eval s = u) {v' : Value} {w' : World}
    (hr : (Builtin.copy_ #[t, t'] o.type #[v, u]).run Try.prog w = .ok v' w') (h : K (a.put o.dst v') w') : o.wp Try.prog a w K Q := by
  unfold Oper.wp execOp
  simp only [ho, resolve, invoke, builtin, Sem.run_bind, Sem.run_pure, Result.andThen_ok, List.map_toArray, List.map_cons, List.map_nil, hd, hs, hr]
  exact h
theorem copy_run (w : World) {ops : Array Oper} {rest : List Oper} {o : Oper} {a : Act} {Q : Exit → Act → World → Prop} (hgd : o.guard = none) (d s : Operand) (t t' : TypeId)
    (ho : o.op = .call { callee := .builtin .copy, args := #[d, s], argTypes := #[t, t'] }) (v u : Value) (hd : a.eval d = v) (hs : a.eval s = u) {v' : Value} {w' : World}
    (hr : (Builtin.copy_ #[t, t'] o.type #[v, u]).run Try.prog w = .ok v' w') (h : wpList Try.prog ops Q rest (a.put o.dst v') w') : wpList Try.prog ops Q (o :: rest) a w :=
  wpList_plain hgd fun _ hK => wp_copy_run w d s t t' ho v u hd hs hr (hK _ _ h)
theorem step_copy {ops : Array Oper} {o : Oper} {a : Act} {w : World} {K : Act → World → Prop} {Q : Exit → Act → World → Prop} {E : Prop}
    (hg : o.guard = none) (d x : Operand) (dT sT : TypeId) (hop : o.op = Op.call { callee := Callee.builtin Builtin.copy, args := #[d, x], argTypes := #[dT, sT] })
    (v u : Value) (hd : a.eval d = v) (hx : a.eval x = u) {v' : Value} {w' : World} (hr : (Builtin.copy_ #[dT, sT] o.type #[v, u]).run Try.prog w = .ok v' w') (hK : K (a.put o.dst v') w') :
    if Region.wanted o (yielded ops a.tmps) = true then Oper.wp Try.prog o a w K Q else E := by
  have hw : Region.wanted o (yielded ops a.tmps) = true := by simp [Region.wanted, hg]
  rw [if_pos hw]
  exact wp_copy_run w d x dT sT hop v u hd hx hr hK

/-- what Insert leaves -/
def InsP (w : World) (base n : Nat) (l : List UInt8) (x : Int) (e : Ending) (w' : World) : Prop :=
  ∃ A c, e = .returned (.slice A (n + 1) c) ∧ Own w' base A (n + 1) c (ofI x :: l) ∧ Below base w w'
theorem bt_cons0 (x : UInt8) (l : List UInt8) : bt (x :: l) 0 = (x.toNat : Int) := rfl
theorem bt_consS (x : UInt8) (l : List UInt8) (k : Nat) : bt (x :: l) (k + 1) = bt l k := rfl
theorem isSome_setCells' (b : Nat) (vs : List Value) (o : Nat) (w : World) (h : ∀ j, j < vs.length → (w.cell? ⟨b, o + j, none⟩).isSome = true) (k : Nat) (hk : (w.cell? ⟨b, k, none⟩).isSome = true) : ((w.setCells b o vs).cell? ⟨b, k, none⟩).isSome = true := by
  by_cases hin : o ≤ k ∧ k < o + vs.length
  · have := World.cell?_setCells_in b vs o w h (k - o) (by omega)
    rw [show o + (k - o) = k by omega] at this
    rw [this]; rfl
  · rw [World.cell?_setCells_out b vs o w ⟨b, k, none⟩ (fun _ _ => by show k < o ∨ o + vs.length ≤ k; omega)]
    exact hk

set_option maxRecDepth 100000 in
set_option maxHeartbeats 4000000 in
/-- there is room -/
theorem insert_room {w : World} {base g n c : Nat} {l : List UInt8} {x : Int} (ho : Own w base (some ⟨g, 0, none⟩) n c l) (hn : 1 ≤ n) (hn2 : n ≤ 100000) (x0 : 0 ≤ x) (x1 : x ≤ 255) (hb : base ≤ w.heap.size) (hroom : n + 1 ≤ c) :
    Calls Try.prog 21 #[.slice (some ⟨g, 0, none⟩) n c, .int .i64 0, .slice (some ⟨w.heap.size, 0, none⟩) 1 1] (w.alloc (.cells #[.int .u8 x] 5)) (InsP w base n l x) := by
  obtain ⟨W, hW⟩ : ∃ W, w.alloc (.cells #[.int .u8 x] 5) = W := ⟨_, rfl⟩
  have hgl := ho.lt
  have hcm := ho.capMax
  obtain ⟨cur, hrow, hsz⟩ := own_block ho
  have hrowW : W.heap[g]? = some (.cells cur 5 (0, 0)) := by rw [← hW, Below.heap_alloc w _ g hgl.2]; exact hrow
  have hvrow : W.heap[w.heap.size]? = some (.cells #[.int .u8 x] 5 (0, 0)) := by rw [← hW]; exact heap_alloc_new w _
  have hne : w.heap.size ≠ g := by omega
  have hcs : ∀ j v, (vs l)[j]? = some v → W.cell? ⟨g, j, none⟩ = some v := fun j v hj => by
    have hj' : j < l.length := by
      rcases Nat.lt_or_ge j l.length with h | h
      · exact h
      · rw [List.getElem?_eq_none (by rw [vs_length]; exact h)] at hj; cases hj
    have h1 := (ho.alloc (.cells #[.int .u8 x] 5)).cellAt (k := j) (by rw [← ho.len]; exact hj')
    rw [hW] at h1
    rw [h1, ← vs_get hj', hj]
  have hspW : ∀ j, j < c → (W.cell? ⟨g, j, none⟩).isSome = true := fun j hj => by
    rw [cell_of_row W g j _ _ _ hrowW, Array.getElem?_eq_getElem (by omega)]; rfl
  have hfzW : ∀ j, W.frozen? ⟨g, j, none⟩ = false := fun j => frozen_of_row W g j _ _ hrowW
  have hln := ho.len
  have hvl : (vs l).length = n := by rw [vs_length, hln]
  have hvx : W.cell? ⟨w.heap.size, 0, none⟩ = some (.int .u8 x) := by rw [cell_of_row W _ 0 _ _ _ hvrow]; rfl
  have hshA : W.shape? w.heap.size = some (5, 1) := by unfold World.shape?; rw [hvrow]; rfl
  have hshB : W.shape? g = some (5, c) := by unfold World.shape?; rw [hrowW]; simp [hsz]
  obtain ⟨i0, hi, hz0, hzs, hzb⟩ := info_parts info8
  have hsi : (Try.prog.info? 5).map (·.size) = some 1 := by rw [hi]; simp [hzs]
  have hov : ∀ lb cb, (callFunc 29 #[.slice (some ⟨w.heap.size, 0, none⟩) 1 1, .slice (some ⟨g, 1, none⟩) lb cb]).run Try.prog W = .ok (.value (.bool false)) W := fun lb cb => by
    rw [run_callFunc_extern Try.func29 (by kernel_rfl) (by kernel_rfl) (by kernel_rfl) (e := Extern.SlicesOverlaps.overlaps #[22, 22] #[4]) (by kernel_rfl),
      Lib.run_overlaps_apart W 22 4 5 Try.underlying22 1 (fun w => by simp [sizeOf, typeInfo, hi, hzs]) ⟨w.heap.size, 0, none⟩ ⟨g, 1, none⟩ 1 1 lb cb hne 5 5 1 c hshA hshB (by omega) (frozen_of_row W _ 0 _ _ hvrow) (frozen_of_row W _ 1 _ _ hvrow)]
    rfl
  have hcp1 : ∀ ty dc sc, (Builtin.copy_ #[22, 22] ty #[.slice (some ⟨g, 1, none⟩) n dc, .slice (some ⟨g, 0, none⟩) (n + 1) sc]).run Try.prog W.drew = .ok (goInt (vs l).length) (W.drew.setCells g 1 (vs l)) := fun ty dc sc =>
    run_copy_cells W.drew _ _ ty 5 g 1 n dc ⟨g, 0, none⟩ (n + 1) sc (vs l) Try.underlying22 hsi (by rw [hvl]; simp only [Nat.min_def]; split <;> omega)
      (fun j v hj => by rw [add_plain, Nat.zero_add]; exact hcs j v hj)
      (fun j hj => hspW _ (by omega)) (fun j hj => hfzW _) (vs_one l)
  obtain ⟨W1, hW1⟩ : ∃ W1, W.drew.setCells g 1 (vs l) = W1 := ⟨_, rfl⟩
  have hsp1 : ∀ k, k < c → (W1.cell? ⟨g, k, none⟩).isSome = true := fun k hk => by
    rw [← hW1]
    exact isSome_setCells' g (vs l) 1 W.drew (fun j hj => hspW _ (by omega)) _ (hspW k hk)
  rw [hW1] at hcp1
  have hfz1 : ∀ j, W1.frozen? ⟨g, j, none⟩ = false := fun j => by rw [← hW1, World.frozen?_setCells]; exact hfzW j
  have hvx1 : W1.cell? ⟨w.heap.size, 0, none⟩ = some (.int .u8 x) := by
    rw [← hW1, World.cell?_setCells_out g _ _ _ _ (fun h _ => absurd h hne)]; exact hvx
  have hcp2 : ∀ ty dc, (Builtin.copy_ #[22, 22] ty #[.slice (some ⟨g, 0, none⟩) (n + 1) dc, .slice (some ⟨w.heap.size, 0, none⟩) 1 1]).run Try.prog W1 = .ok (goInt ([Value.int .u8 x]).length) (W1.setCells g 0 [Value.int .u8 x]) := fun ty dc =>
    run_copy_cells W1 _ _ ty 5 g 0 (n + 1) dc ⟨w.heap.size, 0, none⟩ 1 1 [Value.int .u8 x] Try.underlying22 hsi (by simp only [Nat.min_def, List.length_singleton]; split <;> omega)
      (fun j v hj => by
        have h0 : j = 0 := by
          rcases Nat.eq_zero_or_pos j with h | h
          · exact h
          · rw [List.getElem?_eq_none (by simp; omega)] at hj; cases hj
        subst h0
        simp at hj
        subst hj
        rw [add_plain]
        exact hvx1)
      (fun j hj => by rw [Nat.zero_add]; simp at hj; subst hj; exact hsp1 0 (by omega)) (fun j hj => hfz1 _) (fun v hv => by simp at hv; subst hv; rfl)
  have FIN := Lib.hid (show InsP w base n l x (.returned (.slice (some ⟨g, 0, none⟩) (n + 1) c)) (W1.setCells g 0 [Value.int .u8 x]) from by
    have hr1 : W1.heap[g]? = some (.cells (setA cur 1 (vs l)) 5 (0, 0)) := by rw [← hW1]; exact heap_setCells _ _ _ _ hrowW
    have hr2 := heap_setCells [Value.int .u8 x] 0 W1 _ hr1
    refine ⟨_, c, rfl, own_of_cells hr2 (by rw [setA_size, setA_size]; exact hsz) hgl.1 hroom hcm (by simp [hln]) (fun k hk => ?_), ?_⟩
    · rcases k with _ | k
      · have := World.cell?_setCells_in g [Value.int .u8 x] 0 W1 (fun j hj => by rw [Nat.zero_add]; simp at hj; subst hj; exact hsp1 0 (by omega)) 0 (by simp)
        rw [Nat.zero_add] at this
        rw [this, bt_cons0, ofI_toNat x0 x1]
        rfl
      · rw [World.cell?_setCells_out g _ _ _ _ (fun _ _ => by right; simp), ← hW1, bt_consS]
        have := World.cell?_setCells_in g (vs l) 1 W.drew (fun j hj => hspW _ (by omega)) k (by omega)
        rw [Nat.add_comm 1 k] at this
        rw [this]
        have h2 := vs_get (l := l) (k := k) (by omega)
        rw [List.getElem?_eq_getElem (by omega)] at h2
        exact h2
    · refine below_setCells hgl.1 _ _ _ ?_
      rw [← hW1]
      refine below_setCells hgl.1 _ _ _ ?_
      rw [← hW]
      exact Below.drew ((Below.refl _ _).alloc hb _))
  have hnz : ¬ ((0 : Int) = (n : Int)) := by omega
  have hc2 : ¬ (c = 1) := by omega
  have hc0 : ¬ (c = 0) := by omega
  have hcI : ¬ ((c : Int) < (n : Int) + 1) := by omega
  have hcB : c ≤ 9223372036854775807 := hcm
  have hw1 : IntKind.i64.wrap 1 = 1 := by rw [IntKind.wrap_i64]; omega
  have hw2 : (1 : Int).toNat = 1 := rfl
  have hb1 : (1 : Int) ≤ (n : Int) + 1 := by omega
  have hb2 : (0 : Int) ≤ (n : Int) + 1 := by omega
  obtain ⟨B, hB⟩ : ∃ B, w.heap.size = B := ⟨_, rfl⟩
  rw [hB] at hov hcp2 ⊢
  rw [hW]
  clear hcs hspW hfzW hsp1 hfz1 hvx hvx1 hshA hshB hrow hrowW hvrow hW hW1 ho hgl hB
  go_enter Try.func21, Try.ntmps21
  go_wp2_with (simp only [hov])
  go_region_law (refine step_copy rfl _ _ 22 22 rfl (.slice (some ⟨g, 1, none⟩) n (c - 1)) (.slice (some ⟨g, 0, none⟩) (n + 1) c) (by simp [Act.eval, Act.put]) (by simp [Act.eval, Act.put]) (hcp1 _ _ _) ?_)
  go_wp2_with (at_builtin; refine copy_run _ rfl _ _ 22 22 rfl _ _ rfl rfl (hcp2 _ _) ?_)
  go_ret
  exact FIN.out

set_option maxRecDepth 100000 in
set_option maxHeartbeats 4000000 in
/-- there is no room -/
theorem insert_grow {w : World} {base g n c : Nat} {l : List UInt8} {x : Int} (ho : Own w base (some ⟨g, 0, none⟩) n c l) (hn : 1 ≤ n) (hn2 : n ≤ 100000) (x0 : 0 ≤ x) (x1 : x ≤ 255) (hb : base ≤ w.heap.size) (hroom : ¬ n + 1 ≤ c) :
    Calls Try.prog 21 #[.slice (some ⟨g, 0, none⟩) n c, .int .i64 0, .slice (some ⟨w.heap.size, 0, none⟩) 1 1] (w.alloc (.cells #[.int .u8 x] 5)) (InsP w base n l x) := by
  obtain ⟨W, hW⟩ : ∃ W, w.alloc (.cells #[.int .u8 x] 5) = W := ⟨_, rfl⟩
  have hgl := ho.lt
  have hcm := ho.capMax
  have hcap := ho.cap
  have hsW : W.heap.size = w.heap.size + 1 := by rw [← hW]; simp
  obtain ⟨cur, hrow, hsz⟩ := own_block ho
  have hvrow : W.heap[w.heap.size]? = some (.cells #[.int .u8 x] 5 (0, 0)) := by rw [← hW]; exact heap_alloc_new w _
  have hcs : ∀ j v, (vs l)[j]? = some v → W.cell? ⟨g, j, none⟩ = some v := fun j v hj => by
    have hj' : j < l.length := by
      rcases Nat.lt_or_ge j l.length with h | h
      · exact h
      · rw [List.getElem?_eq_none (by rw [vs_length]; exact h)] at hj; cases hj
    have h1 := (ho.alloc (.cells #[.int .u8 x] 5)).cellAt (k := j) (by rw [← ho.len]; exact hj')
    rw [hW] at h1
    rw [h1, ← vs_get hj', hj]
  have hln := ho.len
  have hvl : (vs l).length = n := by rw [vs_length, hln]
  have hvx : W.cell? ⟨w.heap.size, 0, none⟩ = some (.int .u8 x) := by rw [cell_of_row W _ 0 _ _ _ hvrow]; rfl
  obtain ⟨i0, hi, hz0, hzs, hzb⟩ := info_parts info8
  have hsi : (Try.prog.info? 5).map (·.size) = some 1 := by rw [hi]; simp [hzs]
  have hold : (Builtin.firstCells i0.size 0 (.slice (some ⟨g, 0, none⟩) 0 c)).run Try.prog W.drew = .ok ([] : List Value).toArray W.drew := by
    rw [hzs]
    exact run_firstCells_some W.drew 1 0 ⟨g, 0, none⟩ 0 c [] rfl (fun j v hj => by simp at hj)
  obtain ⟨G, hG⟩ : ∃ G, grownCap W (n + 1) c 5 = G := ⟨_, rfl⟩
  obtain ⟨ROW, hROW⟩ : ∃ ROW : Array Value, ([] : List Value).toArray ++ Builtin.zeroCells (Value.int .u8 0).cells (n + 1) ++ Builtin.zeroCells (Value.int .u8 0).cells (G - (n + 1)) = ROW := ⟨_, rfl⟩
  have hGn : n + 1 ≤ G := by rw [← hG]; exact grownCap_ge W _ _ _
  have hG63 : G ≤ maxLen := by
    rw [← hG]
    exact grownCap_le_maxLen W (n + 1) c 5 (by unfold maxLen; omega)
  have hRs : ROW.size = G := by
    rw [← hROW]
    simp [Builtin.zeroCells, Value.cells]
    omega
  have hrz : ∀ ty, (Builtin.append_ #[22, 3] ty #[.slice (some ⟨g, 0, none⟩) 0 c, .int .i64 ((n : Int) + 1)]).run Try.prog W =
      .ok (.slice (some ⟨W.heap.size, 0, none⟩) (n + 1) G) (W.drew.alloc (.cells ROW 5)) := fun ty => by
    have h := Lib.run_append_grow_zeros W 22 3 ty 5 i0 _ .i64 .i64 Try.underlying22 Try.underlying3 hi hz0 (some ⟨g, 0, none⟩) 0 c [] hold (n + 1) (by omega) (by omega) (by omega) (by omega) (by rw [hzb]; omega) (by rw [hzb, Nat.zero_add]; exact growslice_fits (by omega) (by omega))
    rw [Nat.zero_add, hG, hROW] at h
    exact h
  obtain ⟨W1, hW1⟩ : ∃ W1, W.drew.alloc (.cells ROW 5) = W1 := ⟨_, rfl⟩
  have hgW : g < W.heap.size := by omega
  have hR1 : W1.heap[W.heap.size]? = some (.cells ROW 5 (0, 0)) := by rw [← hW1]; exact heap_alloc_new W.drew _
  have hN : ∀ j, j < G → (W1.cell? ⟨W.heap.size, j, none⟩).isSome = true := fun j hj => by
    rw [cell_of_row W1 _ j _ _ _ hR1, Array.getElem?_eq_getElem (by omega)]; rfl
  have hNf : ∀ j, W1.frozen? ⟨W.heap.size, j, none⟩ = false := fun j => frozen_of_row W1 _ j _ _ hR1
  have hOb : ∀ j v, (vs l)[j]? = some v → W1.cell? ⟨g, j, none⟩ = some v := fun j v h => by
    rw [← hW1, World.cell?_alloc_lt W.drew _ ⟨g, j, none⟩ hgW]; exact hcs j v h
  have hOx : W1.cell? ⟨w.heap.size, 0, none⟩ = some (.int .u8 x) := by
    rw [← hW1, World.cell?_alloc_lt W.drew _ ⟨w.heap.size, 0, none⟩ (by show w.heap.size < W.heap.size; omega)]; exact hvx
  have one : ∀ j v, [Value.int .u8 x][j]? = some v → j = 0 ∧ v = .int .u8 x := fun j v hj => by
    rcases Nat.eq_zero_or_pos j with h | h
    · subst h; simp at hj; exact ⟨rfl, hj.symm⟩
    · rw [List.getElem?_eq_none (by simp; omega)] at hj; cases hj
  obtain ⟨W2, hW2⟩ : ∃ W2, W1.setCells W.heap.size 0 [Value.int .u8 x] = W2 := ⟨_, rfl⟩
  have hcpA : ∀ ty dc, (Builtin.copy_ #[22, 22] ty #[.slice (some ⟨W.heap.size, 0, none⟩) (n + 1) dc, .slice (some ⟨w.heap.size, 0, none⟩) 1 1]).run Try.prog W1 = .ok (goInt ([Value.int .u8 x]).length) W2 := fun ty dc => by
    rw [← hW2]
    exact run_copy_cells W1 _ _ ty 5 W.heap.size 0 (n + 1) dc ⟨w.heap.size, 0, none⟩ 1 1 [Value.int .u8 x] Try.underlying22 hsi (by simp only [Nat.min_def, List.length_singleton]; split <;> omega)
      (fun j v hj => by obtain ⟨rfl, rfl⟩ := one j v hj; rw [add_plain]; exact hOx)
      (fun j hj => by rw [Nat.zero_add]; simp at hj; subst hj; exact hN 0 (by omega)) (fun j hj => hNf _) (fun v hv => by simp at hv; subst hv; rfl)
  have hR2 : W2.heap[W.heap.size]? = some (.cells (setA ROW 0 [Value.int .u8 x]) 5 (0, 0)) := by rw [← hW2]; exact heap_setCells _ _ _ _ hR1
  have hN2 : ∀ j, j < G → (W2.cell? ⟨W.heap.size, j, none⟩).isSome = true := fun j hj => by
    rw [cell_of_row W2 _ j _ _ _ hR2, Array.getElem?_eq_getElem (by rw [setA_size]; omega)]; rfl
  have hNf2 : ∀ j, W2.frozen? ⟨W.heap.size, j, none⟩ = false := fun j => frozen_of_row W2 _ j _ _ hR2
  have hOb2 : ∀ j v, (vs l)[j]? = some v → W2.cell? ⟨g, j, none⟩ = some v := fun j v h => by
    rw [← hW2, World.cell?_setCells_out _ _ _ _ _ (fun h _ => absurd h (by show ¬ g = W.heap.size; omega))]; exact hOb j v h
  have hcpB : ∀ ty dc sc, (Builtin.copy_ #[22, 22] ty #[.slice (some ⟨W.heap.size, 1, none⟩) n dc, .slice (some ⟨g, 0, none⟩) n sc]).run Try.prog W2.drew = .ok (goInt (vs l).length) (W2.drew.setCells W.heap.size 1 (vs l)) := fun ty dc sc =>
    run_copy_cells W2.drew _ _ ty 5 W.heap.size 1 n dc ⟨g, 0, none⟩ n sc (vs l) Try.underlying22 hsi (by rw [hvl]; simp only [Nat.min_def]; split <;> omega)
      (fun j v hj => by rw [add_plain, Nat.zero_add]; exact hOb2 j v hj)
      (fun j hj => hN2 _ (by omega)) (fun j hj => hNf2 _) (vs_one l)
  have FIN := Lib.hid (show InsP w base n l x (.returned (.slice (some ⟨W.heap.size, 0, none⟩) (n + 1) G)) (W2.drew.setCells W.heap.size 1 (vs l)) from by
    have hr3 := heap_setCells (g := W.heap.size) (vs l) 1 W2.drew _ hR2
    refine ⟨_, G, rfl, own_of_cells hr3 (by rw [setA_size, setA_size]; exact hRs) (by omega) hGn hG63 (by simp [hln]) (fun k hk => ?_), ?_⟩
    · rcases k with _ | k
      · rw [World.cell?_setCells_out _ _ _ _ _ (fun _ _ => by left; simp), bt_cons0, ofI_toNat x0 x1]
        have := World.cell?_setCells_in W.heap.size [Value.int .u8 x] 0 W1 (fun j hj => by rw [Nat.zero_add]; simp at hj; subst hj; exact hN 0 (by omega)) 0 (by simp)
        rw [Nat.zero_add, hW2] at this
        exact this
      · rw [bt_consS]
        have := World.cell?_setCells_in W.heap.size (vs l) 1 W2.drew (fun j hj => hN2 _ (by omega)) k (by omega)
        rw [Nat.add_comm 1 k] at this
        rw [this]
        have h2 := vs_get (l := l) (k := k) (by omega)
        rw [List.getElem?_eq_getElem (by omega)] at h2
        exact h2
    · refine below_setCells (by omega) _ _ _ (Below.drew ?_)
      rw [← hW2]
      refine below_setCells (by omega) _ _ _ ?_
      rw [← hW1]
      refine Below.alloc ?_ (by show base ≤ W.heap.size; omega) _
      rw [← hW]
      exact Below.drew ((Below.refl _ _).alloc hb _))
  have hnz : ¬ ((0 : Int) = (n : Int)) := by omega
  have hcI : (c : Int) < (n : Int) + 1 := by omega
  have hcB : c ≤ 9223372036854775807 := hcm
  have hc0 : ¬ (c = 0) := by omega
  have hG0 : ¬ (G = 0) := by omega
  have hG1 : ¬ (G = 1) := by omega
  have hGB : G ≤ 9223372036854775807 := hG63
  have hw1 : IntKind.i64.wrap 1 = 1 := by rw [IntKind.wrap_i64]; omega
  have hw2 : (1 : Int).toNat = 1 := rfl
  have hb1 : (1 : Int) ≤ (n : Int) + 1 := by omega
  have hb2 : (0 : Int) ≤ (n : Int) + 1 := by omega
  obtain ⟨B, hB⟩ : ∃ B, w.heap.size = B := ⟨_, rfl⟩
  obtain ⟨M, hM⟩ : ∃ M, W.heap.size = M := ⟨_, rfl⟩
  rw [hB] at hcpA ⊢
  rw [hM] at hrz hcpA hcpB FIN
  rw [hW1] at hrz
  rw [hW]
  clear hcs hvx hrow hvrow hW hW1 ho hgl hB hold hG hROW hRs hR1 hN hNf hOb hOx one hW2 hR2 hN2 hNf2 hOb2 hgW hM hsW
  go_enter Try.func21, Try.ntmps21
  go_wp2_with (first
    | (at_builtin; refine Lib.wpList_append_run _ rfl _ _ _ _ rfl _ _ rfl rfl _ _ (hrz _) ?_)
    | (at_builtin; refine copy_run _ rfl _ _ 22 22 rfl _ _ rfl rfl (hcpA _ _) ?_))
  go_region_law (refine step_copy rfl _ _ 22 22 rfl (.slice (some ⟨M, 1, none⟩) n (G - 1)) (.slice (some ⟨g, 0, none⟩) n c) (by simp [Act.eval, Act.put]) (by simp [Act.eval, Act.put]) (hcpB _ _ _) ?_)
  go_wp2
  go_ret
  exact FIN.out
/-- INSERT of one byte ahead of a row that the call owns -/
theorem insert_any {w : World} {base n c : Nat} {A : Option Addr} {l : List UInt8} {x : Int} (ho : Own w base A n c l) (hn : 1 ≤ n) (hn2 : n ≤ 100000) (x0 : 0 ≤ x) (x1 : x ≤ 255) (hb : base ≤ w.heap.size) :
    Calls Try.prog 21 #[.slice A n c, .int .i64 0, .slice (some ⟨w.heap.size, 0, none⟩) 1 1] (w.alloc (.cells #[.int .u8 x] 5)) (InsP w base n l x) := by
  obtain ⟨g, rfl⟩ := ho.shape (by omega)
  by_cases h : n + 1 ≤ c
  · exact insert_room ho hn hn2 x0 x1 hb h
  · exact insert_grow ho hn hn2 x0 x1 hb h
end Go.Proofs.Ytiogcdpmgomllaa.Int4
