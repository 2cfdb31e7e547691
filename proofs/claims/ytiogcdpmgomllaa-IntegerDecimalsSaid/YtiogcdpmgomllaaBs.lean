/- Slices of bytes: what a slice value reads as (Rd), what the call itself owns (Own, Ow), and the laws on conversions, appends and cuts in these words. -/
import Derived.Test.YtiogcdpmgomllaaKit
import Derived.Maps.AppendAt
import Derived.Laws.OwnMore
import Derived.Deep.Draws
import Derived.Deep.AppendLies
import Derived.Lib.SmallJoins
import Derived.Deep.RegionLaw
import Derived.Deep.RegionWith
set_option linter.unusedSimpArgs false
set_option linter.unusedVariables false
namespace Go.Proofs.Ytiogcdpmgomllaa.Kit
open Go.RowKit

/-- byte k of a list, 0 behind its end -/
def bt (l : List UInt8) (k : Nat) : Int := ((l.getD k 0).toNat : Int)
theorem bt_lo (l : List UInt8) (k : Nat) : 0 ≤ bt l k := by unfold bt; omega
theorem bt_hi (l : List UInt8) (k : Nat) : bt l k ≤ 255 := by unfold bt; have := (l.getD k 0).toNat_lt; omega
theorem bt_eq {l : List UInt8} {k : Nat} (h : k < l.length) : bt l k = ((l[k]).toNat : Int) := by unfold bt; simp [List.getD, List.getElem?_eq_getElem h]

/-- the cells of a list of bytes -/
def vs (l : List UInt8) : List Value := l.map fun b => .int .u8 (b.toNat : Int)
theorem vs_length (l : List UInt8) : (vs l).length = l.length := by simp [vs]
theorem vs_nil : vs [] = [] := rfl
theorem vs_append (l m : List UInt8) : vs (l ++ m) = vs l ++ vs m := by simp [vs]
theorem vs_get {l : List UInt8} {k : Nat} (h : k < l.length) : (vs l)[k]? = some (.int .u8 (bt l k)) := by
  rw [bt_eq h]; simp [vs, List.getElem?_eq_getElem h]
theorem vs_one (l : List UInt8) : ∀ u ∈ vs l, u.oneCell' = true := by
  intro u hu; simp only [vs, List.mem_map] at hu; obtain ⟨b, _, rfl⟩ := hu; rfl

theorem block_add (a : Addr) (n : Nat) : (a.add n).block = a.block := by unfold Addr.add; split <;> rfl
theorem add_add (a : Addr) (i j : Nat) : (a.add i).add j = a.add (i + j) := by
  unfold Addr.add
  by_cases hi : i = 0 <;> by_cases hj : j = 0 <;> simp [hi, hj, Nat.add_assoc]
theorem add_plain (g o k : Nat) : (⟨g, o, none⟩ : Addr).add k = ⟨g, o + k, none⟩ := by
  unfold Addr.add
  by_cases h : k = 0 <;> simp [h]

theorem Blk_lt {w : World} {g : Nat} {o : Obj} (h : w.heap[g]? = some o) : g < w.heap.size := by
  rcases Nat.lt_or_ge g w.heap.size with hlt | hge
  · exact hlt
  · rw [Array.getElem?_eq_none hge] at h; cases h

/-- A SLICE OF BYTES READS AS l in world w; its block lies below B -/
def Rd (w : World) (B : Nat) (A : Option Addr) (n : Nat) (l : List UInt8) : Prop :=
  l.length = n ∧ (0 < n → ∃ ad : Addr, A = some ad ∧ ad.block < B ∧ ∀ k, k < n → w.cell? (ad.add k) = some (.int .u8 (bt l k)))

section
variable {w w' : World} {B B' n : Nat} {A : Option Addr} {l : List UInt8}
theorem Rd.len (h : Rd w B A n l) : l.length = n := h.1
theorem Rd.nil_ : Rd w B A 0 [] := ⟨rfl, fun h => absurd h (by omega)⟩
theorem Rd.at_ {k : Nat} (h : Rd w B A n l) (hk : k < n) : ∃ ad, A = some ad ∧ ad.block < B ∧ w.cell? (ad.add k) = some (.int .u8 (bt l k)) := by
  obtain ⟨ad, e, hb, hc⟩ := h.2 (by omega)
  exact ⟨ad, e, hb, hc k hk⟩
theorem Rd.at0 (h : Rd w B A n l) (hk : 0 < n) : ∃ ad, A = some ad ∧ ad.block < B ∧ w.cell? ad = some (.int .u8 (bt l 0)) := by
  obtain ⟨ad, e, hb, hc⟩ := h.2 hk
  exact ⟨ad, e, hb, by simpa [Addr.add] using hc 0 hk⟩
theorem Rd.all_ (h : Rd w B A n l) (hn : 0 < n) : ∃ ad, A = some ad ∧ ad.block < B ∧ ∀ k, k < n → w.cell? (ad.add k) = some (.int .u8 (bt l k)) := h.2 hn
theorem Rd.keep (h : Rd w B A n l) (hk : ∀ p : Addr, p.block < B → w'.cell? p = w.cell? p) : Rd w' B A n l :=
  ⟨h.1, fun hn => by
    obtain ⟨ad, e, hb, hc⟩ := h.2 hn
    exact ⟨ad, e, hb, fun j hj => (hk _ (by rw [block_add]; exact hb)).trans (hc j hj)⟩⟩
theorem Rd.more (h : Rd w B A n l) (hB : B ≤ B') : Rd w B' A n l :=
  ⟨h.1, fun hn => by
    obtain ⟨ad, e, hb, hc⟩ := h.2 hn
    exact ⟨ad, e, by omega, hc⟩⟩
theorem Rd.below (h : Rd w B A n l) (hb : Below B w w') : Rd w' B A n l := h.keep fun _ hp => hb.cell hp
/-- behind a call: the reading in the new world -/
theorem Rd.past (h : Rd w w.heap.size A n l) (hb : Below w.heap.size w w') : Rd w' w'.heap.size A n l := (h.below hb).more hb.size
theorem Rd.drew (h : Rd w B A n l) : Rd w.drew B A n l := h
theorem Rd.drewN (h : Rd w B A n l) (k : Nat) : Rd (w.drewN k) B A n l := h
theorem Rd.alloc (h : Rd w B A n l) (hB : B ≤ w.heap.size) (o : Obj) : Rd (w.alloc o) B A n l := h.keep fun p hp => World.cell?_alloc_lt w o p (by omega)
theorem Rd.setCell (h : Rd w B A n l) {p : Addr} (hB : B ≤ p.block) (u : Value) : Rd (w.setCell p u) B A n l :=
  h.keep fun q hq => World.cell?_setCell_other w p q u (fun e => by subst e; omega)
theorem Rd.far (h : Rd w B A n l) {p : Addr} (hp : ∀ ad, A = some ad → ad.block ≠ p.block) (u : Value) : Rd (w.setCell p u) B A n l :=
  ⟨h.1, fun hn => by
    obtain ⟨ad, e, hb, hc⟩ := h.2 hn
    refine ⟨ad, e, hb, fun j hj => (World.cell?_setCell_other w p _ u (fun e' => ?_)).trans (hc j hj)⟩
    have := hp ad e
    rw [e', block_add] at this
    exact this rfl⟩
theorem Rd.cast (h : Rd w B A n l) {m : Nat} {l' : List UInt8} (hn : n = m) (hl : l = l') : Rd w B A m l' := by subst hn hl; exact h
theorem bt_drop (l : List UInt8) (i j : Nat) : bt (l.drop i) j = bt l (i + j) := by
  unfold bt; simp [List.getD, List.getElem?_drop]
theorem bt_take {l : List UInt8} {i j : Nat} (h : j < i) : bt (l.take i) j = bt l j := by
  unfold bt; simp [List.getD, List.getElem?_take, h]
/-- 's[k:m]' as the model writes its address (cap: the capacity up to which it is cut) -/
theorem Rd.cut (h : Rd w B A n l) {k m cap : Nat} (hk : k ≤ m) (hm : m ≤ n) (hc : m ≤ cap) :
    Rd w B (if cap = k then A else A.map (·.add (k * 1))) (m - k) ((l.drop k).take (m - k)) := by
  refine ⟨by rw [List.length_take, List.length_drop, h.1]; omega, fun hn => ?_⟩
  obtain ⟨ad, rfl, hb, hcell⟩ := h.2 (by omega)
  rw [if_neg (by omega)]
  refine ⟨ad.add (k * 1), rfl, by rw [block_add]; exact hb, fun j hj => ?_⟩
  rw [add_add, bt_take hj, bt_drop, Nat.mul_one]
  exact hcell _ (by omega)
/-- 's[k:m:..]', k < m -/
theorem Rd.cutMap (h : Rd w B A n l) {k m : Nat} (hm : k + m ≤ n) : Rd w B (A.map (fun x => x.add k)) m ((l.drop k).take m) := by
  refine ⟨by rw [List.length_take, List.length_drop, h.1]; omega, fun hn => ?_⟩
  obtain ⟨ad, rfl, hb, hcell⟩ := h.2 (by omega)
  refine ⟨ad.add k, rfl, by rw [block_add]; exact hb, fun j hj => ?_⟩
  rw [add_add, bt_take hj, bt_drop]
  exact hcell _ (by omega)
theorem Rd.take (h : Rd w B A n l) {m : Nat} (hm : m ≤ n) : Rd w B A m (l.take m) := by
  refine ⟨by rw [List.length_take, h.1]; omega, fun hn => ?_⟩
  obtain ⟨ad, rfl, hb, hcell⟩ := h.2 (by omega)
  exact ⟨ad, rfl, hb, fun j hj => by rw [bt_take hj]; exact hcell _ (by omega)⟩
end

/-- THE CALL OWNS the slice: nil, or the head of a row among blocks from base on; it holds l -/
def Own (w : World) (base : Nat) (A : Option Addr) (n c : Nat) (l : List UInt8) : Prop :=
  w.ownsRow base 5 1 (.slice A n c) n (vs l)
section
variable {w w' : World} {B base n c : Nat} {A : Option Addr} {l : List UInt8}
theorem Own.len (h : Own w base A n c l) : l.length = n := by have := h.1; rw [vs_length] at this; omega
theorem Own.cap (h : Own w base A n c l) : n ≤ c := by
  rcases h.2 with ⟨hv, h0⟩ | ⟨g, cap, cur, hv, _, _, hn, _⟩
  · omega
  · injection hv with _ _ hc; omega
theorem Own.capMax (h : Own w base A n c l) : c ≤ maxLen := by
  rcases h.2 with ⟨hv, h0⟩ | ⟨g, cap, cur, hv, _, _, hn, hm, _⟩
  · injection hv with _ _ hc; subst hc; exact Nat.zero_le _
  · injection hv with _ _ hc; omega
theorem Own.rd (h : Own w base A n c l) : Rd w w.heap.size A n l := by
  refine ⟨h.len, fun hn => ?_⟩
  obtain ⟨g, cap, hv, _, hlt⟩ := World.ownsRow.form h hn
  have hA : A = some ⟨g, 0, none⟩ := by injection hv
  subst hA
  refine ⟨_, rfl, hlt, fun k hk => World.ownsRow.cells h (g := g) rfl k _ (vs_get (by rw [h.len]; exact hk))⟩
theorem Own.lit (w : World) (l : List UInt8) (hb : base ≤ w.heap.size) (hm : l.length ≤ maxLen) :
    Own (w.alloc (.cells (vs l).toArray 5)) base (some ⟨w.heap.size, 0, none⟩) l.length l.length l := by
  have := World.ownsRow_lit (base := base) (e := 5) (size := 1) w (vs l).toArray l.length hb hm (by simp [vs])
  simpa [Own] using this
end

/-- string(b) of a slice that reads as l -/
theorem run_str {P : Program} {w : World} {B n c : Nat} {A : Option Addr} {l : List UInt8} (h : Rd w B A n l) (src e dst : TypeId)
    (hs : P.underlying src = some (.slice e)) (he : P.underlying e = some (.int .u8)) (hd : P.underlying dst = some .string) :
    (convert src dst (.slice A n c)).run P w = .ok (.string ⟨l.toArray⟩) w := by
  rw [run_convert_bytes_string w src dst e A n c hs he hd]
  rcases A with _ | ad
  · have hl : l = [] := by
      rcases Nat.eq_zero_or_pos n with h0 | h0
      · exact List.eq_nil_of_length_eq_zero (h.1.trans h0)
      · obtain ⟨ad, e', _⟩ := h.2 h0; cases e'
    subst hl
    simp [Conv.bytesToString]; rfl
  · have hl : (loadCells ad n).run P w = .ok ((l.map fun b : UInt8 => (b.toNat : Int)).map (Value.int .u8)).toArray w := by
      have := run_loadCells_list (P := P) w ad ((l.map fun b : UInt8 => (b.toNat : Int)).map (Value.int .u8)) (fun j v hj => by
        have hjl : j < l.length := by
          rcases Nat.lt_or_ge j l.length with h' | h'
          · exact h'
          · rw [List.getElem?_eq_none (by simpa using h')] at hj; cases hj
        obtain ⟨ad', e', _, hc⟩ := h.at_ (k := j) (by rw [← h.1]; exact hjl)
        injection e' with e'
        subst e'
        rw [hc, bt_eq hjl]
        simp [List.getElem?_eq_getElem hjl] at hj
        rw [hj])
      simpa [h.1] using this
    rw [run_bytesToString w ad n c _ hl, foldl_push_bytes]
    simp [ByteArray.empty, ByteArray.emptyWithCapacity, Function.comp_def]
    rfl

/-- two strings of bytes compared -/
theorem beq_str (l m : List UInt8) : (l == m) = decide (l = m) := by
  by_cases h : l = m
  · subst h; simp
  · simp [h]

/-- a number as a byte -/
def ofI (x : Int) : UInt8 := UInt8.ofNat x.toNat
theorem ofI_toNat {x : Int} (h0 : 0 ≤ x) (h1 : x ≤ 255) : ((ofI x).toNat : Int) = x := by
  unfold ofI
  have : (UInt8.ofNat x.toNat).toNat = x.toNat := by simp [UInt8.toNat_ofNat]; omega
  rw [this]
  omega
theorem ofI_byte (b : UInt8) : ofI (b.toNat : Int) = b := by simp [ofI]
theorem vs_ofI : ∀ (xs : List Int), (∀ x ∈ xs, 0 ≤ x ∧ x ≤ 255) → vs (xs.map ofI) = xs.map (Value.int .u8)
  | [], _ => rfl
  | x :: xs, h => by
    have h1 := h x (by simp)
    have h2 := vs_ofI xs (fun y hy => h y (by simp [hy]))
    simp only [vs, List.map_cons, List.map_map] at h2 ⊢
    rw [ofI_toNat h1.1 h1.2]
    simp only [List.cons.injEq, true_and]
    simpa using h2
/-- a slice literal of bytes, just made -/
theorem Rd.lits (w : World) (xs : List Int) (h : ∀ x ∈ xs, 0 ≤ x ∧ x ≤ 255) :
    Rd (w.alloc (.cells (xs.map (Value.int .u8)).toArray 5)) (w.heap.size + 1) (some ⟨w.heap.size, 0, none⟩) xs.length (xs.map ofI) := by
  have ho := Own.lit (base := 0) w (xs.map ofI) (Nat.zero_le _)
  refine ⟨by simp, fun _ => ⟨_, rfl, Nat.lt_succ_self _, fun k hk => ?_⟩⟩
  rw [add_plain, Nat.zero_add]
  have hx : (vs (xs.map ofI))[k]? = some (.int .u8 (bt (xs.map ofI) k)) := vs_get (by simpa using hk)
  rw [vs_ofI xs h] at hx
  rw [cell_of_row _ w.heap.size k _ _ _ (heap_alloc_new w _)]
  simpa using hx

theorem info8 : (Try.prog.info? 5).map (fun i => (i.zero, i.size, i.bytes)) = some (some (.int .u8 0), 1, 1) := by kernel_rfl

/-- append(out, x...) where the call owns out and x reads as l2 -/
theorem run_app {w : World} {base n c : Nat} {A : Option Addr} {l : List UInt8} (hown : Own w base A n c l) {B m c2 : Nat} {A2 : Option Addr} {l2 : List UInt8} (hr : Rd w B A2 m l2)
    (hlim : n + m ≤ 140737488355328) (hbase : base ≤ w.heap.size) (ty : TypeId) :
    ∃ A' c' w', (Builtin.append_ #[22, 22] ty #[.slice A n c, .slice A2 m c2]).run Try.prog w = .ok (.slice A' (n + m) c') w' ∧ Own w' base A' (n + m) c' (l ++ l2) ∧
      w.grownBy w' (Value.slice A n c).ownBlock ∧ Below base w w' ∧ ((Value.slice A' (n + m) c').ownBlock = (Value.slice A n c).ownBlock ∨ (Value.slice A' (n + m) c').ownBlock = some w.heap.size) := by
  obtain ⟨i, hi, hz, hsz, hby⟩ := info_parts info8
  have hb63 : n + m ≤ maxLen := by unfold maxLen; omega
  have hbel : ∀ w' : World, w.grownBy w' (Value.slice A n c).ownBlock → Below base w w' := fun w' hg => (Below.refl _ _).grown hg hbase (fun k hk => by
    rcases hown.2 with ⟨hv, _⟩ | ⟨g, cap, cur, hv, hg', _⟩
    · injection hv with h1; subst h1; cases hk
    · injection hv with h1; subst h1; simp [Value.ownBlock] at hk; omega)
  rcases A2 with _ | ad
  · have hm : m = 0 := by
      rcases Nat.eq_zero_or_pos m with h0 | h0
      · exact h0
      · obtain ⟨ad, h, _⟩ := hr.2 h0; cases h
    subst hm
    have hl : l2 = [] := List.eq_nil_of_length_eq_zero hr.1
    subst hl
    refine ⟨A, c, w, ?_, by simpa using hown, World.grownBy.refl w _, Below.refl _ _, .inl rfl⟩
    rcases hown.2 with ⟨hv, h0⟩ | ⟨g, cap, cur, hv, _, _, hnc, _⟩
    · injection hv with e1 e2 e3
      subst e1 e3 h0
      simp [Builtin.append_, run_underlying Try.underlying22, sizeOf, typeInfo, hi, Builtin.lenOf, Builtin.firstCells]
    · injection hv with e1 e2 e3
      subst e1 e3
      simp [Builtin.append_, run_underlying Try.underlying22, sizeOf, typeInfo, hi, Builtin.lenOf, Builtin.firstCells, hnc, storeCells]
  · have hcells : ∀ j u, (vs l2)[j]? = some u → w.cell? (ad.add j) = some u := by
      intro j u hu
      have hj : j < l2.length := by
        rcases Nat.lt_or_ge j l2.length with h | h
        · exact h
        · rw [List.getElem?_eq_none (by rw [vs_length]; exact h)] at hu; cases hu
      obtain ⟨ad', h, _, hc⟩ := hr.at_ (k := j) (by rw [← hr.1]; exact hj)
      injection h with h
      subst h
      rw [hc, ← vs_get hj, hu]
    obtain ⟨v', w', hrun, h2, h3, _, h5⟩ := run_append_own_at (P := Try.prog) w base 22 ty 5 i (.int .u8 0) 1 1 Try.underlying22 hi hz hsz hby rfl (by omega) (.slice A n c) n (vs l) hown ad m c2 (vs l2)
      (by rw [vs_length, hr.1]; omega) hcells (vs_one l2) hb63 (by omega) hbase
    rcases Joins.ownsRow_forms h2 with ⟨hv, h0⟩ | ⟨g, cap, hv⟩
    · subst hv
      have hn : n = 0 := by omega
      have hm : m = 0 := by omega
      subst hn; subst hm
      exact ⟨none, 0, w', hrun, by rw [Own, vs_append]; exact h2, h3, hbel _ h3, h5⟩
    · subst hv
      exact ⟨_, cap, w', hrun, by rw [Own, vs_append]; exact h2, h3, hbel _ h3, h5⟩

theorem wp_app {o : Oper} {a : Act} {w : World} {K : Act → World → Prop} {Q : Exit → Act → World → Prop} (s x : Operand)
    (ho : o.op = .call { callee := .builtin .append, args := #[s, x], argTypes := #[22, 22] })
    {base n c : Nat} {A : Option Addr} {l : List UInt8} (hs : a.eval s = .slice A n c) (hown : Own w base A n c l)
    {B m c2 : Nat} {A2 : Option Addr} {l2 : List UInt8} (hx : a.eval x = .slice A2 m c2) (hr : Rd w B A2 m l2)
    (hlim : n + m ≤ 140737488355328) (hbase : base ≤ w.heap.size)
    (h : ∀ A' c' w', Own w' base A' (n + m) c' (l ++ l2) → w.grownBy w' (Value.slice A n c).ownBlock → Below base w w' →
      ((Value.slice A' (n + m) c').ownBlock = (Value.slice A n c).ownBlock ∨ (Value.slice A' (n + m) c').ownBlock = some w.heap.size) → K (a.put o.dst (.slice A' (n + m) c')) w') : o.wp Try.prog a w K Q := by
  obtain ⟨A', c', w', hrun, h2, h3, h4, h5⟩ := run_app hown hr (c2 := c2) hlim hbase o.type
  unfold Oper.wp execOp
  simp only [ho, resolve, invoke, builtin, Sem.run_bind, Sem.run_pure, Result.andThen_ok, List.map_toArray, List.map_cons, List.map_nil, hs, hx, hrun]
  exact h A' c' w' h2 h3 h4 h5

theorem app {ops : Array Oper} {rest : List Oper} {o : Oper} {a : Act} {w : World} {Q : Exit → Act → World → Prop} (hgd : o.guard = none) (s x : Operand)
    (ho : o.op = .call { callee := .builtin .append, args := #[s, x], argTypes := #[22, 22] })
    {base n c : Nat} {A : Option Addr} {l : List UInt8} (hs : a.eval s = .slice A n c) (hown : Own w base A n c l)
    {B m c2 : Nat} {A2 : Option Addr} {l2 : List UInt8} (hx : a.eval x = .slice A2 m c2) (hr : Rd w B A2 m l2)
    (hlim : n + m ≤ 140737488355328) (hbase : base ≤ w.heap.size)
    (h : ∀ A' c' w', Own w' base A' (n + m) c' (l ++ l2) → w.grownBy w' (Value.slice A n c).ownBlock → Below base w w' →
      ((Value.slice A' (n + m) c').ownBlock = (Value.slice A n c).ownBlock ∨ (Value.slice A' (n + m) c').ownBlock = some w.heap.size) → wpList Try.prog ops Q rest (a.put o.dst (.slice A' (n + m) c')) w') :
    wpList Try.prog ops Q (o :: rest) a w :=
  wpList_plain hgd fun _ hK => wp_app s x ho hs hown hx hr hlim hbase fun A' c' w' h2 h3 h4 h5 => hK _ _ (h A' c' w' h2 h3 h4 h5)
theorem Own.alloc {w : World} {base n c : Nat} {A : Option Addr} {l : List UInt8} (h : Own w base A n c l) (o : Obj) : Own (w.alloc o) base A n c l := World.ownsRow.alloc h o
theorem Own.drew {w : World} {base n c : Nat} {A : Option Addr} {l : List UInt8} (h : Own w base A n c l) : Own w.drew base A n c l := h
theorem Own.drewN {w : World} {base n c : Nat} {A : Option Addr} {l : List UInt8} (h : Own w base A n c l) (k : Nat) : Own (w.drewN k) base A n c l := h
theorem Own.mono {w : World} {base base' n c : Nat} {A : Option Addr} {l : List UInt8} (h : Own w base A n c l) (hb : base' ≤ base) : Own w base' A n c l := by
  rcases h with ⟨h1, h2⟩
  refine ⟨h1, ?_⟩
  rcases h2 with h | ⟨g, cap, cur, hv, hg, hr⟩
  · exact .inl h
  · exact .inr ⟨g, cap, cur, hv, by omega, hr⟩
/-- what a call owned before another call that leaves all older blocks alone -/
theorem Own.below {w w' : World} {base n c : Nat} {A : Option Addr} {l : List UInt8} (h : Own w base A n c l) (hb : Below w.heap.size w w') : Own w' base A n c l := by
  rcases h with ⟨h1, h2⟩
  refine ⟨h1, ?_⟩
  rcases h2 with h | ⟨g, cap, cur, hv, hg, hr, hrest⟩
  · exact .inl h
  · refine .inr ⟨g, cap, cur, hv, hg, ?_, hrest⟩
    rw [hb.block g (Blk_lt hr)]
    exact hr
theorem Own.none_ (w : World) (base : Nat) : Own w base none 0 0 [] := World.ownsRow_nil _ _ _ _

theorem Own.cellAt {w : World} {base n c g : Nat} {l : List UInt8} (h : Own w base (some ⟨g, 0, none⟩) n c l) {k : Nat} (hk : k < n) : w.cell? ⟨g, k, none⟩ = some (.int .u8 (bt l k)) := by
  rw [World.ownsRow.cellAt h k (by omega)]
  exact vs_get (by rw [h.len]; exact hk)
theorem Own.frozenAt {w : World} {base n c g : Nat} {l : List UInt8} (h : Own w base (some ⟨g, 0, none⟩) n c l) (k : Nat) : w.frozen? ⟨g, k, none⟩ = false := World.ownsRow.frozenAt h k
theorem Own.stored {w : World} {base n c g : Nat} {l : List UInt8} (h : Own w base (some ⟨g, 0, none⟩) n c l) (k : Nat) {x : Int} (h0 : 0 ≤ x) (h1 : x ≤ 255) :
    Own (w.setCell ⟨g, k, none⟩ (.int .u8 x)) base (some ⟨g, 0, none⟩) n c (l.set k (ofI x)) := by
  have := (World.ownsRow.stored h k (.int .u8 x)).1
  unfold Own
  have e : vs (l.set k (ofI x)) = (vs l).set k (.int .u8 x) := by simp [vs, ofI_toNat h0 h1]
  rw [e]; exact this
theorem Own.lt {w : World} {base n c g : Nat} {l : List UInt8} (h : Own w base (some ⟨g, 0, none⟩) n c l) : base ≤ g ∧ g < w.heap.size := by
  rcases h.2 with ⟨h', _⟩ | ⟨g', cap', cur, h', hb, hg, _⟩
  · simp at h'
  · simp only [Value.slice.injEq, Option.some.injEq, Addr.mk.injEq, and_true, true_and] at h'
    obtain ⟨rfl, rfl⟩ := h'
    exact ⟨hb, Blk_lt hg⟩
theorem Own.shape {w : World} {base n c : Nat} {A : Option Addr} {l : List UInt8} (h : Own w base A n c l) (hn : 0 < n) : ∃ g, A = some ⟨g, 0, none⟩ := by
  obtain ⟨g, cap, hv⟩ := Joins.ownsRow_form h hn
  injection hv with h1
  exact ⟨g, h1⟩
theorem grown_set {w wr : World} {g : Nat} (h : w.grownBy wr (some g)) (k : Nat) (u : Value) : w.grownBy (wr.setCell ⟨g, k, none⟩ u) (some g) :=
  ⟨h.os, h.tape, h.output, by simpa [World.setCell] using h.size, fun i hi hne => (Below.heap_setCell wr ⟨g, k, none⟩ u i (fun e => hne (by rw [e]))).trans (h.block i hi hne)⟩
theorem grown_drew {w wr : World} {r : Option Nat} (h : w.grownBy wr r) : w.grownBy wr.drew r := ⟨h.os, h.tape, h.output, h.size, h.block⟩
theorem grown_drewN {w wr : World} {r : Option Nat} (h : w.grownBy wr r) (k : Nat) : w.grownBy (wr.drewN k) r := ⟨h.os, h.tape, h.output, h.size, h.block⟩
theorem ofI_bt (l : List UInt8) (k : Nat) : ofI (bt l k) = l.getD k 0 := by unfold bt; exact ofI_byte _
theorem bt_set {l : List UInt8} {k i : Nat} {x : Int} (h0 : 0 ≤ x) (h1 : x ≤ 255) (hk : k < l.length) : bt (l.set k (ofI x)) i = if k = i then x else bt l i := by
  unfold bt
  by_cases h : k = i
  · subst h
    simp [List.getD, List.getElem?_set, hk, ofI_toNat h0 h1]
  · rw [if_neg h]; simp [List.getD, List.getElem?_set, h]
theorem bt_ext {l m : List UInt8} (hl : l.length = m.length) (h : ∀ k, k < l.length → bt l k = bt m k) : l = m := by
  apply List.ext_getElem hl
  intro i h1 h2
  have := h i h1
  rw [bt_eq h1, bt_eq h2] at this
  exact UInt8.toNat_inj.1 (by omega)
theorem bt_reverse {l : List UInt8} {k : Nat} (h : k < l.length) : bt l.reverse k = bt l (l.length - 1 - k) := by
  rw [bt_eq (by simpa using h), bt_eq (by omega)]
  simp

theorem in1 {x : Int} (h0 : 0 ≤ x) (h1 : x ≤ 255) : ∀ y ∈ [x], 0 ≤ y ∧ y ≤ 255 := by intro y hy; simp at hy; subst hy; exact ⟨h0, h1⟩
theorem in2 {x y : Int} (h0 : 0 ≤ x) (h1 : x ≤ 255) (h2 : 0 ≤ y) (h3 : y ≤ 255) : ∀ z ∈ [x, y], 0 ≤ z ∧ z ≤ 255 := by
  intro z hz; simp at hz; rcases hz with rfl | rfl <;> omega
/-- append(out, x, y ..) : the bytes xs have just been laid in a block of their own -/
theorem appL (xs : List Int) {ops : Array Oper} {rest : List Oper} {o : Oper} {a : Act} {w : World} {Q : Exit → Act → World → Prop} (hgd : o.guard = none) (s x : Operand)
    (ho : o.op = .call { callee := .builtin .append, args := #[s, x], argTypes := #[22, 22] })
    {base n c : Nat} {A : Option Addr} {l : List UInt8} (hs : a.eval s = .slice A n c) (hown : Own w base A n c l)
    {c2 : Nat} (hx : a.eval x = .slice (some ⟨w.heap.size, 0, none⟩) xs.length c2) (hxs : ∀ x ∈ xs, 0 ≤ x ∧ x ≤ 255)
    (hlim : n + xs.length ≤ 140737488355328) (hbase : base ≤ w.heap.size)
    (h : ∀ A' c' w', Own w' base A' (n + xs.length) c' (l ++ xs.map ofI) → (w.alloc (.cells (xs.map (Value.int .u8)).toArray 5)).grownBy w' (Value.slice A n c).ownBlock → Below base w w' →
      ((Value.slice A' (n + xs.length) c').ownBlock = (Value.slice A n c).ownBlock ∨ (Value.slice A' (n + xs.length) c').ownBlock = some (w.heap.size + 1)) → wpList Try.prog ops Q rest (a.put o.dst (.slice A' (n + xs.length) c')) w') :
    wpList Try.prog ops Q (o :: rest) a (w.alloc (.cells (xs.map (Value.int .u8)).toArray 5)) :=
  app hgd s x ho hs (hown.alloc _) hx (Rd.lits w xs hxs) hlim (by simp; omega) fun A' c' w' h2 h3 h4 h5 =>
    h A' c' w' h2 h3 (((Below.refl _ _).alloc hbase _).trans h4) (by simpa using h5)

/-- a store into a block that is older than the slice's -/
theorem Own.setOld {w : World} {base n c : Nat} {A : Option Addr} {l : List UInt8} (h : Own w base A n c l) {p : Addr} (hp : p.block < base) (u : Value) : Own (w.setCell p u) base A n c l :=
  ownsRow_setCell_below h hp u
theorem grown_of_below {w w1 : World} (h : Below w.heap.size w w1) (row : Option Nat) : w.grownBy w1 row := ⟨h.os, h.tape, h.output, h.size, fun i hi _ => h.block i hi⟩
theorem grown_setNew {w wr : World} {row : Option Nat} (h : w.grownBy wr row) {p : Addr} (hp : w.heap.size ≤ p.block) (u : Value) : w.grownBy (wr.setCell p u) row :=
  ⟨h.os, h.tape, h.output, by simpa [World.setCell] using h.size, fun i hi hne => (Below.heap_setCell wr p u i (fun e => by omega)).trans (h.block i hi hne)⟩
theorem grown_alloc {w wr : World} {row : Option Nat} (h : w.grownBy wr row) (o : Obj) : w.grownBy (wr.alloc o) row :=
  ⟨h.os, h.tape, h.output, Nat.le_trans h.size (by simp), fun i hi hne => (Below.heap_alloc wr o i (Nat.lt_of_lt_of_le hi h.size)).trans (h.block i hi hne)⟩

/-- one byte more of a list's piece -/
theorem take_more {l : List UInt8} {p k : Nat} (h : p + k < l.length) : (l.drop p).take (k + 1) = (l.drop p).take k ++ [bt l (p + k)].map ofI := by
  have hk : k < (l.drop p).length := by rw [List.length_drop]; omega
  rw [List.take_succ_eq_append_getElem hk, List.map_singleton, ofI_bt]
  simp [List.getElem_drop, List.getD, List.getElem?_eq_getElem h]
/-- an old slice's cell behind changes to one other block -/
theorem Rd.grownAt {w wr : World} {n k : Nat} {A : Option Addr} {l : List UInt8} {g : Nat} (h : Rd w w.heap.size A n l) (hg : w.grownBy wr (some g)) (hA : ∀ ad, A = some ad → ad.block ≠ g) (hk : k < n) :
    ∃ ad, A = some ad ∧ ad.block < w.heap.size ∧ wr.cell? (ad.add k) = some (.int .u8 (bt l k)) := by
  obtain ⟨ad, e, hb, hc⟩ := h.at_ hk
  refine ⟨ad, e, hb, ?_⟩
  have : wr.heap[(ad.add k).block]? = w.heap[(ad.add k).block]? := by
    rw [block_add]; exact hg.block _ hb (fun e' => hA ad e (by injection e'))
  exact (World.cell?_of_block this).trans hc

theorem grown_below {w wr w2 : World} {r : Option Nat} {B : Nat} (h : w.grownBy wr r) (hb : Below B wr w2) (hB : w.heap.size ≤ B) : w.grownBy w2 r :=
  ⟨hb.os.trans h.os, hb.tape.trans h.tape, hb.output.trans h.output, Nat.le_trans h.size hb.size, fun i hi hne => (hb.block i (by omega)).trans (h.block i hi hne)⟩
theorem grown_trans {w wr w2 : World} {r : Option Nat} (h : w.grownBy wr r) (h2 : wr.grownBy w2 r) : w.grownBy w2 r :=
  ⟨h2.os.trans h.os, h2.tape.trans h.tape, h2.output.trans h.output, Nat.le_trans h.size h2.size, fun i hi hne => (h2.block i (Nat.lt_of_lt_of_le hi h.size) hne).trans (h.block i hi hne)⟩

/-- append(out, x...) inside a region that draws its order -/
theorem step_app {ops : Array Oper} {o : Oper} {a : Act} {w : World} {K : Act → World → Prop} {Q : Exit → Act → World → Prop} {E : Prop} (hgd : o.guard = none) (s x : Operand)
    (ho : o.op = .call { callee := .builtin .append, args := #[s, x], argTypes := #[22, 22] })
    {base n c : Nat} {A : Option Addr} {l : List UInt8} (hs : a.eval s = .slice A n c) (hown : Own w base A n c l)
    {B m c2 : Nat} {A2 : Option Addr} {l2 : List UInt8} (hx : a.eval x = .slice A2 m c2) (hr : Rd w B A2 m l2)
    (hlim : n + m ≤ 140737488355328) (hbase : base ≤ w.heap.size)
    (h : ∀ A' c' w', Own w' base A' (n + m) c' (l ++ l2) → w.grownBy w' (Value.slice A n c).ownBlock → Below base w w' →
      ((Value.slice A' (n + m) c').ownBlock = (Value.slice A n c).ownBlock ∨ (Value.slice A' (n + m) c').ownBlock = some w.heap.size) → K (a.put o.dst (.slice A' (n + m) c')) w') :
    if Region.wanted o (yielded ops a.tmps) = true then Oper.wp Try.prog o a w K Q else E := by
  have hw : Region.wanted o (yielded ops a.tmps) = true := by simp [Region.wanted, hgd]
  rw [if_pos hw]
  exact wp_app s x ho hs hown hx hr hlim hbase h

theorem own_ne {w : World} {base n c : Nat} {A : Option Addr} {l : List UInt8} {g : Nat} {cs : Array Value} {t : TypeId} (h : Own w base A n c l) (hg : w.heap[g]? = some (.cells cs t (0, 0))) (ht : t ≠ 5) :
    (Value.slice A n c).ownBlock ≠ some g := by
  intro he
  rcases h.2 with ⟨hv, _⟩ | ⟨g', cap, cur, hv, _, hh, _⟩
  · rw [hv] at he; cases he
  · rw [hv] at he
    have : g' = g := by simpa [Value.ownBlock] using he
    subst this
    rw [hg] at hh
    injection hh with hh
    injection hh with _ h2
    exact ht h2
theorem Own.grown {w w' : World} {base n c : Nat} {A : Option Addr} {l : List UInt8} {r : Option Nat} (h : Own w base A n c l) (hg : w.grownBy w' r) (hne : ∀ k, r = some k → (Value.slice A n c).ownBlock ≠ some k) : Own w' base A n c l := by
  rcases h with ⟨h1, h2⟩
  refine ⟨h1, ?_⟩
  rcases h2 with h | ⟨g, cap, cur, hv, hb, hr, hrest⟩
  · exact .inl h
  · refine .inr ⟨g, cap, cur, hv, hb, ?_, hrest⟩
    rw [hg.block g (Blk_lt hr) (fun e => hne g e.symm (by rw [hv]; simp [Value.ownBlock]))]
    exact hr
theorem Own.blk {w : World} {base n c k : Nat} {A : Option Addr} {l : List UInt8} (h : Own w base A n c l) (hk : (Value.slice A n c).ownBlock = some k) : base ≤ k ∧ k < w.heap.size := by
  rcases h.2 with ⟨hv, _⟩ | ⟨g, cap, cur, hv, hb, hr, hrest⟩
  · rw [hv] at hk; cases hk
  · rw [hv] at hk
    have : g = k := by simpa [Value.ownBlock] using hk
    subst this
    exact ⟨hb, Blk_lt hr⟩

/-- behind a call that changes one old block alone -/
theorem gcell {W w1 : World} {g : Nat} (hg : W.grownBy w1 (some g)) : (∀ b o, b < W.heap.size → b ≠ g → w1.cell? ⟨b, o, none⟩ = W.cell? ⟨b, o, none⟩) ∧ (∀ b o, b < W.heap.size → b ≠ g → w1.frozen? ⟨b, o, none⟩ = W.frozen? ⟨b, o, none⟩) :=
  ⟨fun b o h hne => World.cell?_of_block (hg.block b h (fun e => hne (by injection e))), fun b o h hne => World.frozen?_of_block (hg.block b h (fun e => hne (by injection e)))⟩

/-- a slice literal just made, in the walk's spelling -/
theorem Rd.litE (X : World) (xs : List Int) (l : List UInt8) (S n : Nat) (hS : X.heap.size = S) (hxs : ∀ x ∈ xs, 0 ≤ x ∧ x ≤ 255) (hl : xs.map ofI = l) (hn : xs.length = n) :
    Rd (X.alloc (.cells (xs.map (Value.int .u8)).toArray 5)) (S + 1) (some ⟨S, 0, none⟩) n l := by
  subst hS hl hn; exact Rd.lits X xs hxs
end Go.Proofs.Ytiogcdpmgomllaa.Kit
