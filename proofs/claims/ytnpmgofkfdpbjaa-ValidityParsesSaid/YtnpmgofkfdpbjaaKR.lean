/- Joined texts: BasE, BasF, BasG, BasH. -/
import Derived.LoopN
import Derived.Test.YtnpmgofkfdpbjaaKQ
import Derived.Test.YtnpmgofkfdpbjaaKL
set_option linter.unusedSimpArgs false
set_option linter.unusedVariables false
/- Walks: Valid and Marshal of basic constraints; Sequence; Put of the reference. -/
namespace Go.Proofs.Ytnpmgofkfdpbjaa.Bas
open Go.RowKit Kit Tlv

theorem infoSl : (Try.prog.info? 29).map (fun i => (i.zero, i.size, i.bytes)) = some (some (.slice none 0 0), 1, 24) := by kernel_rfl
theorem cells3 {w : World} {b : Nat} {x0 x1 x2 : Value} {t : TypeId} (h : w.heap[b]? = some (.cells #[x0, x1, x2] t (0, 0))) :
    w.cell? ⟨b, 0, none⟩ = some x0 ∧ w.cell? ⟨b, 1, none⟩ = some x1 ∧ w.cell? ⟨b, 2, none⟩ = some x2 := by
  refine ⟨?_, ?_, ?_⟩ <;> (rw [cell_of_row w b _ _ _ _ h]; rfl)
/-- parts in a row of the call's own, one behind the other -/
theorem cat_row (A : Nat → Option Addr) (N C : Nat → Nat) (L : Nat → List UInt8) (m : Nat) (w : World) {P : Option Addr} {cc base : Nat}
    (h : w.ownsRow base 29 1 (.slice P m cc) m ((List.range m).map fun k => Value.slice (A k) (N k) (C k))) (hr : ∀ k, k < m → Rd w w.heap.size (A k) (N k) (L k)) (ht : Cur.tot N m ≤ 140737488355328) (hm : m ≤ 1000000) :
    Calls Try.prog 134 #[.slice P m cc] w (Cur.CatP w (Cur.tot N m) (Cur.catF L m)) := by
  rcases Nat.eq_zero_or_pos m with h0 | h0
  · subst h0
    exact Cur.concatN_any (g := 0) A N C L w (.inl rfl) (fun h => absurd h (by omega)) (fun k hk => absurd hk (by omega)) (fun k hk => absurd hk (by omega)) (Nat.le_refl _) ht hm
  · obtain ⟨g, cap, hv⟩ := Joins.ownsRow_form h h0
    injection hv with hP
    subst hP
    have hlt := (World.ownsRow.lt h g rfl).2
    exact Cur.concatN_any (g := g) A N C L w (.inr rfl) (fun _ => hlt) (fun k hk => by rw [World.ownsRow.cellAt h k (by omega)]; simp [hk]) hr (Nat.le_refl _) ht hm
/-- no part; one; two -/
theorem cat0 (w : World) : Calls Try.prog 134 #[.slice none 0 0] w (Cur.CatP w 0 []) :=
  cat_row (fun _ => none) (fun _ => 0) (fun _ => 0) (fun _ => []) 0 w (base := 0) (World.ownsRow_nil _ _ _ _) (fun k hk => absurd hk (by omega)) (by simp [Cur.tot]) (by omega)
theorem cat1 {A0 P : Option Addr} {n0 c0 cc base : Nat} {l0 : List UInt8} (w : World) (h : w.ownsRow base 29 1 (.slice P 1 cc) 1 [.slice A0 n0 c0]) (h0 : Rd w w.heap.size A0 n0 l0) (hn : n0 ≤ 100000) :
    Calls Try.prog 134 #[.slice P 1 cc] w (Cur.CatP w n0 l0) := by
  have := cat_row (fun _ => A0) (fun _ => n0) (fun _ => c0) (fun _ => l0) 1 w h (fun k hk => h0) (by simp [Cur.tot]; omega) (by omega)
  simpa [Cur.tot, Cur.catF] using this
theorem cat2 {A0 A1 P : Option Addr} {n0 c0 n1 c1 cc base : Nat} {l0 l1 : List UInt8} (w : World) (h : w.ownsRow base 29 1 (.slice P 2 cc) 2 [.slice A0 n0 c0, .slice A1 n1 c1]) (h0 : Rd w w.heap.size A0 n0 l0) (h1 : Rd w w.heap.size A1 n1 l1) (hn : n0 ≤ 100000) (hn1 : n1 ≤ 100000) :
    Calls Try.prog 134 #[.slice P 2 cc] w (Cur.CatP w (n0 + n1) (l0 ++ l1)) := by
  have := cat_row (fun k => if k = 0 then A0 else A1) (fun k => if k = 0 then n0 else n1) (fun k => if k = 0 then c0 else c1) (fun k => if k = 0 then l0 else l1) 2 w (by simpa [List.range, List.range.loop] using h)
    (fun k hk => by rcases (by omega : k = 0 ∨ k = 1) with rfl | rfl; exact h0; exact h1) (by simp [Cur.tot]; omega) (by omega)
  simpa [Cur.tot, Cur.catF] using this

set_option maxHeartbeats 1000000 in
theorem seq_any {P : Option Addr} {m cc k : Nat} {u : List UInt8} (w : World) (hcat : Calls Try.prog 134 #[.slice P m cc] w (Cur.CatP w k u)) (hk : k ≤ 1000) (hu : u.length ≤ 1000) :
    Calls Try.prog 101 #[.slice P m cc] w (Ent.MarP w (encL 0 true 16 u) 0) := by
  have W := Lib.hid (wrap_any 0 16 true w hcat (by omega))
  have F := Lib.hid (seq_code hu)
  clear hcat hk hu
  go_enter Try.func101, Try.ntmps101
  go_wp2_with fail
  go_must (go_fit W.out)
  rintro e w1 ⟨A1, c1, rfl, o1, hb1⟩
  go_wp2
  go_ret2
  exact ⟨A1, c1, by rw [F.out]; rfl, o1, hb1⟩

set_option maxHeartbeats 2000000 in
theorem validb_any (ca hp : Bool) (p : Int) (w : World) : Calls Try.prog 46 #[.agg #[.bool ca, .bool hp, .int .i64 p]] w fun e w' => e = .returned (.bool (basB ca hp p)) ∧ Below w.heap.size w w' := by
  have V := Lib.hid (fun w => count_any p w)
  have F := Lib.hid (show basB ca hp p = (cntB p && ((!hp || ca) && (hp || decide (p = 0)))) from rfl)
  cases hc : cntB p with
  | false =>
    rw [hc] at V F
    clear hc
    go_enter Try.func46, Try.ntmps46
    go_wp2_with fail
    go_must (go_fit (V.out _))
    rintro e w1 ⟨rfl, hb1⟩
    go_wp2
    go_ret
    exact ⟨ret_bool (by rw [F.out]; rfl), bel1 hb1⟩
  | true =>
    rw [hc] at V F
    clear hc
    by_cases h0 : p = 0
    · subst h0
      cases hp <;> cases ca
      all_goals
        go_enter Try.func46, Try.ntmps46
        go_wp2_with fail
        go_must (go_fit (V.out _))
        rintro e w1 ⟨rfl, hb1⟩
        obtain ⟨q0, q1, q2⟩ := cells3 (blk1 hb1)
        go_wp2
        go_ret
        exact ⟨ret_bool (by rw [F.out]; rfl), bel1 hb1⟩
    · have hd : decide (p = 0) = false := by simpa using h0
      rw [hd] at F
      cases hp <;> cases ca
      all_goals
        go_enter Try.func46, Try.ntmps46
        go_wp2_with fail
        go_must (go_fit (V.out _))
        rintro e w1 ⟨rfl, hb1⟩
        obtain ⟨q0, q1, q2⟩ := cells3 (blk1 hb1)
        go_wp2
        go_ret
        exact ⟨ret_bool (by rw [F.out]; first | rfl | simp [h0]), bel1 hb1⟩
set_option maxHeartbeats 2000000 in
theorem refvalidb_any (ca hp : Bool) (p : Int) (w : World) : Calls Try.prog 47 #[.agg #[.bool ca, .bool hp, .int .i64 p]] w fun e w' => e = .returned (.bool (basB ca hp p)) ∧ Below w.heap.size w w' := by
  have V := Lib.hid (fun w => refcount_any p w)
  have F := Lib.hid (show basB ca hp p = (cntB p && ((!hp || ca) && (hp || decide (p = 0)))) from rfl)
  cases hp with
  | false =>
    by_cases h0 : p = 0
    · subst h0
      go_enter Try.func47, Try.ntmps47
      go_wp2
      go_ret
      exact ⟨ret_bool (by rw [F.out]; rfl), (by repeat' (first | (with_reducible exact Below.refl _ _) | (with_reducible assumption) | (with_reducible refine below_drewN ?_ _) | (with_reducible refine Below.drew ?_) | (with_reducible refine Below.alloc ?_ ?_ _) | (with_reducible refine Below.setCell ?_ ?_ _) | go_size))⟩
    · have R := Lib.hid (show basB ca false p = false from by rw [F.out]; simp [h0])
      have hd : decide (p = 0) = false := by simpa using h0
      go_enter Try.func47, Try.ntmps47
      go_wp2
      go_ret
      exact ⟨ret_bool (by rw [R.out]; first | rfl | simp [h0]), (by repeat' (first | (with_reducible exact Below.refl _ _) | (with_reducible assumption) | (with_reducible refine below_drewN ?_ _) | (with_reducible refine Below.drew ?_) | (with_reducible refine Below.alloc ?_ ?_ _) | (with_reducible refine Below.setCell ?_ ?_ _) | go_size))⟩
  | true =>
    cases ca with
    | false =>
      go_enter Try.func47, Try.ntmps47
      go_wp2
      go_ret
      exact ⟨ret_bool (by rw [F.out]; simp), (by repeat' (first | (with_reducible exact Below.refl _ _) | (with_reducible assumption) | (with_reducible refine below_drewN ?_ _) | (with_reducible refine Below.drew ?_) | (with_reducible refine Below.alloc ?_ ?_ _) | (with_reducible refine Below.setCell ?_ ?_ _) | go_size))⟩
    | true =>
      go_enter Try.func47, Try.ntmps47
      go_wp2_with fail
      go_must (go_fit (V.out _))
      rintro e w1 ⟨rfl, hb1⟩
      go_wp2
      go_ret
      exact ⟨ret_bool (by rw [F.out]; simp), bel1 hb1⟩

/-- what reads in a world reads so behind an append to a row of slices -/
theorem rd_grown {w w' : World} {base n c size m : Nat} {e : TypeId} {o : Obj} {A A2 : Option Addr} {xs : List Value} {l : List UInt8} (hr : Rd w w.heap.size A2 m l) (ho : w.ownsRow base e size (.slice A n c) n xs) (hg : (w.alloc o).grownBy w' (Value.slice A n c).ownBlock)
    (hd : ∀ ad, A2 = some ad → (Value.slice A n c).ownBlock ≠ some ad.block) : Rd w' w'.heap.size A2 m l := by
  refine ⟨hr.1, fun hm => ?_⟩
  obtain ⟨ad, rfl, hb, hc⟩ := hr.2 hm
  have hz := hg.size
  simp only [World.size_alloc] at hz
  refine ⟨ad, rfl, by omega, fun k hk => ?_⟩
  have h1 : (w.alloc o).cell? (ad.add k) = some (.int .u8 (bt l k)) := (World.cell?_alloc_lt w o _ (by rw [block_add]; exact hb)).trans (hc k hk)
  exact hg.cell h1 (by rw [block_add]; exact fun h => hd ad rfl h.symm)
theorem far_lo {w : World} {A2 A : Option Addr} {m n c : Nat} {l : List UInt8} (hr : Rd w w.heap.size A2 m l) (hs : (Value.slice A n c).ownBlock = (Value.slice none 0 0).ownBlock ∨ (Value.slice A n c).ownBlock = some (w.heap.size + 1)) (hm : 0 < m := by decide) :
    ∀ ad, A2 = some ad → (Value.slice A n c).ownBlock ≠ some ad.block := by
  intro ad h
  obtain ⟨ad', h', hb', _⟩ := hr.2 hm
  rw [h] at h'
  injection h' with h'
  subst h'
  rcases hs with e | e <;> rw [e]
  · simp [Value.ownBlock]
  · intro h2; injection h2 with h2; omega
theorem far_hi {w w2 : World} {A2 A : Option Addr} {m n c c2 base size : Nat} {e : TypeId} {xs : List Value} {l : List UInt8} (ho : Own w2 w.heap.size A2 m c2 l) (hr : w.ownsRow base e size (.slice A n c) n xs) :
    ∀ ad, A2 = some ad → (Value.slice A n c).ownBlock ≠ some ad.block := by
  intro ad h e
  subst h
  have h1 := (World.ownsRow.lt ho ad.block rfl).1
  have h2 := (World.ownsRow.lt hr _ e).2
  omega
theorem far_nil {w w' : World} {b : Nat} {o : Obj} (hg : w.grownBy w' (Value.slice none 0 0).ownBlock) (h : w.heap[b]? = some o) : w'.heap[b]? = some o := (hg.block b (Blk_lt h) (by simp [Value.ownBlock])).trans h

theorem mar_of_enc {w w' : World} {c n : Int} {b : Bool} {u v : List UInt8} {e : Ending} (h : EncP w c b n u e w') (hv : encL c b n u = v) (hc : encCode c n u.length = 0) : Ent.MarP w v 0 e w' := by
  subst hv
  obtain ⟨A', c', he, ho, hb⟩ := h
  exact ⟨A', c', by rw [he, hc], ho, hb⟩
theorem one_slice (A : Option Addr) (n c : Nat) : ∀ u ∈ [Value.slice A n c], u.oneCell' = true := by intro u hu; simp at hu; subst hu; rfl
theorem ca_enc : encL 0 false 1 [255] = [1, 1, 255] ∧ encCode 0 1 1 = 0 := by decide +kernel

set_option maxRecDepth 100000 in
set_option maxHeartbeats 3000000 in
theorem marb_any (ca hp : Bool) (p : Int) (w : World) : Calls Try.prog 44 #[.agg #[.bool ca, .bool hp, .int .i64 p]] w (Ent.MarP w (basL ca hp p) (basC ca hp p)) := by
  have V := Lib.hid (fun w => validb_any ca hp p w)
  cases hv : basB ca hp p with
  | false =>
    obtain ⟨f1, f2⟩ := bas_no hv
    rw [f1, f2]
    rw [hv] at V
    clear hv f1 f2
    go_enter Try.func44, Try.ntmps44
    go_wp2_with fail
    go_must (go_fit (V.out _))
    rintro e w1 ⟨rfl, hb1⟩
    go_wp2
    go_ret2
    exact ⟨none, 0, rfl, Own.none_ _ _, bel1 hb1⟩
  | true =>
    obtain ⟨f1, f2⟩ := bas_yes hv
    obtain ⟨i1, i2, i3⟩ := basB_iff.1 hv
    have hlen := basP_len (ca := ca) (hp := hp) i1
    rw [f1, f2]
    rw [hv] at V
    clear hv f1 f2
    have hnl := nm_len (c := 0) (t := 2) (by omega) (by omega) i1
    have N := Lib.hid (fun w => number_any 0 2 p w (by omega) (by omega) (int_bd i1))
    clear i1
    cases ca with
    | false =>
      cases hp with
      | true => exact absurd (i2 rfl) (by decide)
      | false =>
        have F := Lib.hid (show basP false false p = [] from rfl)
        rw [F.out]
        clear i2 i3 hlen hnl N
        go_enter Try.func44, Try.ntmps44
        go_wp2_with fail
        go_must (go_fit (V.out _))
        rintro e w1 ⟨rfl, hb1⟩
        have tb := blk1 hb1
        have BE := Lib.hid (bel1 hb1)
        obtain ⟨q0, q1, q2⟩ := cells3 tb
        have SQ := Lib.hid (seq_any w1 (cat0 w1) (by omega) (by simp))
        clear tb hb1
        go_wp2_with fail
        go_must (go_fit SQ.out)
        rintro e w2 ⟨A2, c2, rfl, o2, hb2⟩
        go_wp2
        go_ret2
        exact ⟨A2, c2, rfl, o2.mono BE.out.size, two_belowK BE.out hb2 BE.out.size⟩
    | true =>
      have FB := Lib.hid (fun w => Int4.frombool_any true w)
      cases hp with
      | false =>
        have F := Lib.hid (show basP true false p = [1, 1, 255] from rfl)
        rw [F.out]
        clear i2 i3 hlen hnl N
        go_enter Try.func44, Try.ntmps44
        go_wp2_with fail
        go_must (go_fit (V.out _))
        rintro e w1 ⟨rfl, hb1⟩
        have tb := blk1 hb1
        have bel := bel1 hb1
        clear hb1
        obtain ⟨q0, q1, q2⟩ := cells3 tb
        go_wp2_with fail
        go_must (go_fit (FB.out _))
        rintro e w2 ⟨A2, c2, rfl, o2, hb2⟩
        rw [show Int4.boolL true = [255] from rfl] at o2
        replace tb := stayK tb hb2
        replace bel := two_belowK bel hb2 bel.size
        have W := Lib.hid (fun cc => (wrap_any 0 1 false _ (cat_one (cc := cc) (t := 29) w2 w2.heap.size (c := c2) o2.rd (Nat.le_refl _) rfl (by omega)) (by omega)).mono fun e w' h => mar_of_enc h ca_enc.1 ca_enc.2)
        clear o2 hb2 q0 q1 q2
        go_wp2_with fail
        go_must (go_fit (W.out _))
        rintro e w3 ⟨A3, c3, rfl, o3, hb3⟩
        simp only [List.length_cons, List.length_nil, Nat.zero_add, Nat.reduceAdd] at o3 ⊢
        have R3 := Lib.hid o3.rd
        replace tb := stayK (bk_old tb) hb3
        have B3 := Lib.hid ((bel.alloc bel.size _).trans (hb3.mono (by have := bel.size; simp; omega)))
        have T3 := Lib.hid tb
        have hz3 : w.heap.size ≤ w3.heap.size := B3.out.size
        obtain ⟨q0, q1, q2⟩ := cells3 tb
        clear o3 hb3 bel tb W
        go_upto_region 9 with (first | (at_builtin; refine appS rfl (.tmp 23) (.tmp 25) 108 1 24 _ rfl Try.underlying108 infoSl rfl (by decide) (by decide) rfl (World.ownsRow_nil w3 w.heap.size 29 1) rfl (one_slice _ _ _) rfl rfl (by omega) hz3 ?_; intro A4 c4 w4 o4 hg4 hb4 hs4))
        simp only [List.nil_append, Nat.zero_add] at o4 ⊢
        have R4 := Lib.hid (rd_grown R3.out (World.ownsRow_nil w3 w.heap.size 29 1) hg4 (fun _ _ => by simp [Value.ownBlock]))
        have D3 := Lib.hid (far_lo (c := c4) R3.out hs4)
        have B4 := Lib.hid (B3.out.trans hb4)
        have t4 := far_nil hg4 (bk_old T3.out)
        clear q0 q1 q2 hg4 hb4
        obtain ⟨q0, q1, q2⟩ := cells3 t4
        go_upto_region 14 with fail
        have SQ := Lib.hid (seq_any w4 (cat1 w4 o4 R4.out (by omega)) (by omega) (by simp))
        go_wp2_with fail
        go_must (go_fit SQ.out)
        rintro e w5 ⟨A5, c5, rfl, o5, hb5⟩
        go_wp2
        go_ret2
        exact ⟨A5, c5, rfl, o5.mono B4.out.size, two_belowK B4.out hb5 B4.out.size⟩
      | true =>
        have F := Lib.hid (show basP true true p = [1, 1, 255] ++ nmL 0 2 p from rfl)
        rw [F.out]
        generalize nmL 0 2 p = u at *
        clear i2 i3 hlen
        go_enter Try.func44, Try.ntmps44
        go_wp2_with fail
        go_must (go_fit (V.out _))
        rintro e w1 ⟨rfl, hb1⟩
        have tb := blk1 hb1
        have bel := bel1 hb1
        clear hb1
        obtain ⟨q0, q1, q2⟩ := cells3 tb
        go_wp2_with fail
        go_must (go_fit (FB.out _))
        rintro e w2 ⟨A2, c2, rfl, o2, hb2⟩
        rw [show Int4.boolL true = [255] from rfl] at o2
        replace tb := stayK tb hb2
        replace bel := two_belowK bel hb2 bel.size
        have W := Lib.hid (fun cc => (wrap_any 0 1 false _ (cat_one (cc := cc) (t := 29) w2 w2.heap.size (c := c2) o2.rd (Nat.le_refl _) rfl (by omega)) (by omega)).mono fun e w' h => mar_of_enc h ca_enc.1 ca_enc.2)
        clear o2 hb2 q0 q1 q2
        go_wp2_with fail
        go_must (go_fit (W.out _))
        rintro e w3 ⟨A3, c3, rfl, o3, hb3⟩
        simp only [List.length_cons, List.length_nil, Nat.zero_add, Nat.reduceAdd] at o3 ⊢
        have R3 := Lib.hid o3.rd
        replace tb := stayK (bk_old tb) hb3
        have B3 := Lib.hid ((bel.alloc bel.size _).trans (hb3.mono (by have := bel.size; simp; omega)))
        have T3 := Lib.hid tb
        have hz3 : w.heap.size ≤ w3.heap.size := B3.out.size
        obtain ⟨q0, q1, q2⟩ := cells3 tb
        clear o3 hb3 bel tb W
        go_upto_region 9 with (first | (at_builtin; refine appS rfl (.tmp 23) (.tmp 25) 108 1 24 _ rfl Try.underlying108 infoSl rfl (by decide) (by decide) rfl (World.ownsRow_nil w3 w.heap.size 29 1) rfl (one_slice _ _ _) rfl rfl (by omega) hz3 ?_; intro A4 c4 w4 o4 hg4 hb4 hs4))
        simp only [List.nil_append, Nat.zero_add] at o4 ⊢
        have R4 := Lib.hid (rd_grown R3.out (World.ownsRow_nil w3 w.heap.size 29 1) hg4 (fun _ _ => by simp [Value.ownBlock]))
        have D3 := Lib.hid (far_lo (c := c4) R3.out hs4)
        have B4 := Lib.hid (B3.out.trans hb4)
        have t4 := far_nil hg4 (bk_old T3.out)
        clear q0 q1 q2 hg4 hb4
        obtain ⟨q0, q1, q2⟩ := cells3 t4
        go_upto_region 10 with fail
        go_wp2_with fail
        go_must (go_fit (N.out _))
        rintro e w5 ⟨A5, c5, rfl, o5, hb5⟩
        have B5 := Lib.hid (two_belowK B4.out hb5 B4.out.size)
        have R5 := Lib.hid (R4.out.past hb5)
        have R6 := Lib.hid o5.rd
        have O5 := Lib.hid (owns_below o4 hb5 (Nat.le_refl _))
        have D5 := Lib.hid (far_hi o5 o4)
        clear hb5 o5 o4 R4 B4 q0 q1 q2
        have hz5 : w.heap.size ≤ w5.heap.size := B5.out.size
        go_upto_region 14 with (first | (at_builtin; refine appS rfl (.tmp 38) (.tmp 40) 108 1 24 _ rfl Try.underlying108 infoSl rfl (by decide) (by decide) rfl O5.out rfl (one_slice _ _ _) rfl rfl (by omega) hz5 ?_; intro A7 c7 w7 o7 hg7 hb7 hs7))
        have R7 := Lib.hid (rd_grown R5.out O5.out hg7 D3.out)
        have R8 := Lib.hid (rd_grown R6.out O5.out hg7 D5.out)
        have B7 := Lib.hid (B5.out.trans hb7)
        have SQ := Lib.hid (seq_any w7 (cat2 w7 o7 R7.out R8.out (by omega) (by omega)) (by omega) (by simp; omega))
        clear hg7 hb7
        go_wp2_with fail
        go_must (go_fit SQ.out)
        rintro e w8 ⟨A8, c8, rfl, o8, hb8⟩
        go_wp2
        go_ret2
        exact ⟨A8, c8, rfl, o8.mono B7.out.size, two_belowK B7.out hb8 B7.out.size⟩
end Go.Proofs.Ytnpmgofkfdpbjaa.Bas
/- Walks: Put of the reference's trees; Marshal of the reference's basic constraints. -/
namespace Go.Proofs.Ytnpmgofkfdpbjaa.Bas
open Go.RowKit Kit Tlv

/-- where the loop of Put stands -/
def PutR (w : World) (N : Nat → Nat) (L : Nat → List UInt8) (m : Nat) (o i : Value) (wr : World) : Prop :=
  ∃ (j : Nat) (B : Option Addr) (c : Nat), j ≤ m ∧ i = .int .i64 (j : Int) ∧ o = .slice B (Cur.tot N j) c ∧ Own wr w.heap.size B (Cur.tot N j) c (Cur.catF L j) ∧ Below w.heap.size w wr

set_option maxRecDepth 100000 in
set_option maxHeartbeats 3000000 in
theorem refput_any (A : Nat → Option Addr) (N C : Nat → Nat) (L : Nat → List UInt8) (m : Nat) (x : Int) (w : World) {P : Option Addr} {cc base : Nat}
    (h : w.ownsRow base 29 1 (.slice P m cc) m ((List.range m).map fun k => Value.slice (A k) (N k) (C k))) (hr : ∀ k, k < m → Rd w w.heap.size (A k) (N k) (L k)) (ht : Cur.tot N m ≤ 100000) (hm : m ≤ 1000000) (hx0 : 0 ≤ x) (hx1 : x ≤ 255) :
    Calls Try.prog 103 #[.int .u8 x, .slice P m cc] w (Int4.OwnP w (putL x (Cur.catF L m))) := by
  have HO := Lib.hid h
  have HR := Lib.hid hr
  have TS := Lib.hid (fun k => show Cur.tot N (k + 1) = Cur.tot N k + N k from rfl)
  have CS := Lib.hid (fun k => show Cur.catF L (k + 1) = Cur.catF L k ++ L k from rfl)
  have TL := Lib.hid (fun k (h : k ≤ m) => Cur.tot_le N h)
  have T0 := Lib.hid (show Cur.tot N 0 = 0 from rfl)
  have C0 := Lib.hid (show Cur.catF L 0 = [] from rfl)
  have PU := Lib.hid (fun (A0 : Option Addr) (c0 : Nat) (X : World) (hr : Rd X X.heap.size A0 (Cur.tot N m) (Cur.catF L m)) => put_any (c := c0) x X hr (Nat.le_refl _) hx0 hx1 (by omega))
  clear h hr
  go_enter Try.func103, Try.ntmps103
  go_wp2
  go_loopw [5, 6] (fun o i wr => PutR w N L m o i wr) (fun _ i _ => m - (intOf i).toNat)
  case atStart => exact ⟨0, none, 0, Nat.zero_le _, rfl, by rw [T0.out], by rw [T0.out, C0.out]; exact Own.none_ _ _, (by repeat' (first | (with_reducible exact Below.refl _ _) | (with_reducible assumption) | (with_reducible refine below_drewN ?_ _) | (with_reducible refine Below.drew ?_) | (with_reducible refine Below.alloc ?_ ?_ _) | (with_reducible refine Below.setCell ?_ ?_ _) | go_size))⟩
  case round =>
    obtain ⟨j, B2, c2, hj, rfl, rfl, ho, hb⟩ := hrel
    have zb := hb.size
    by_cases hlt : j < m
    · obtain ⟨g, cap, hv⟩ := Joins.ownsRow_form HO.out (by omega)
      injection hv with hP
      subst hP
      have hgl := (World.ownsRow.lt HO.out g rfl).2
      have ck : wr.cell? ⟨g, j, none⟩ = some (.slice (A j) (N j) (C j)) := (hb.cell (p := ⟨g, j, none⟩) hgl).trans (by rw [World.ownsRow.cellAt HO.out j (by omega)]; simp [hlt])
      have rj := Lib.hid ((HR.out j hlt).below hb)
      have st := Lib.hid (TS.out j)
      have sc := Lib.hid (CS.out j)
      have tl : Cur.tot N j + N j ≤ 140737488355328 := by have := TL.out (j + 1) hlt; rw [TS.out j] at this; omega
      have hlt' : (j : Int) < (m : Int) := by omega
      generalize hT : Cur.tot N j = t at *
      generalize Cur.catF L j = u at *
      generalize hN : N j = nk at *
      generalize A j = ak at *
      generalize C j = cck at *
      generalize L j = lk at *
      clear hT hN HO HR TL PU
      go_wp2_with (first | (at_builtin; refine app rfl (.tmp 13) (.tmp 17) rfl rfl ho rfl rj.out tl zb ?_; intro A' c' w' ho' hg' hb' hs'))
      go_roundw
      case rel => exact ⟨j + 1, A', c', by omega, by go_num, by rw [st.out], by rw [st.out, sc.out]; exact ho', hb.trans hb'⟩
      case measure => simp [intOf]; omega
    · obtain rfl : j = m := by omega
      have PP := Lib.hid (PU.out B2 c2 wr ho.rd)
      clear PU TL HR HO
      go_wp2_with fail
      go_must (go_fit PP.out)
      rintro e w1 ⟨A1, c1, rfl, o1, hb1⟩
      go_wp2
      go_ret
      exact ⟨A1, c1, rfl, o1.mono zb, two_belowK hb hb1 zb⟩
theorem put16 {u : List UInt8} (h : u.length ≤ 1000) : putL 48 u = encL 0 true 16 u := by
  rw [show (48 : Int) = idByte 0 true 16 from by decide]; exact put_enc (seq_code h)
/-- no part; one; two -/
theorem put0 (w : World) : Calls Try.prog 103 #[.int .u8 48, .slice none 0 0] w (Int4.OwnP w (encL 0 true 16 [])) := by
  have := refput_any (fun _ => none) (fun _ => 0) (fun _ => 0) (fun _ => []) 0 48 w (base := 0) (World.ownsRow_nil _ _ _ _) (fun k hk => absurd hk (by omega)) (by simp [Cur.tot]) (by omega) (by omega) (by omega)
  rw [← put16 (by simp)]
  exact this
theorem put1 {A0 P : Option Addr} {n0 c0 cc base : Nat} {l0 : List UInt8} (w : World) (h : w.ownsRow base 29 1 (.slice P 1 cc) 1 [.slice A0 n0 c0]) (h0 : Rd w w.heap.size A0 n0 l0) (hn : n0 ≤ 400) :
    Calls Try.prog 103 #[.int .u8 48, .slice P 1 cc] w (Int4.OwnP w (encL 0 true 16 l0)) := by
  have hl := h0.len
  have := refput_any (fun _ => A0) (fun _ => n0) (fun _ => c0) (fun _ => l0) 1 48 w h (fun k hk => h0) (by simp [Cur.tot]; omega) (by omega) (by omega) (by omega)
  rw [← put16 (by omega)]
  simpa [Cur.tot, Cur.catF] using this
theorem put2 {A0 A1 P : Option Addr} {n0 c0 n1 c1 cc base : Nat} {l0 l1 : List UInt8} (w : World) (h : w.ownsRow base 29 1 (.slice P 2 cc) 2 [.slice A0 n0 c0, .slice A1 n1 c1]) (h0 : Rd w w.heap.size A0 n0 l0) (h1 : Rd w w.heap.size A1 n1 l1) (hn : n0 ≤ 400) (hn1 : n1 ≤ 400) :
    Calls Try.prog 103 #[.int .u8 48, .slice P 2 cc] w (Int4.OwnP w (encL 0 true 16 (l0 ++ l1))) := by
  have hl := h0.len
  have hl1 := h1.len
  have := refput_any (fun k => if k = 0 then A0 else A1) (fun k => if k = 0 then n0 else n1) (fun k => if k = 0 then c0 else c1) (fun k => if k = 0 then l0 else l1) 2 48 w (by simpa [List.range, List.range.loop] using h)
    (fun k hk => by rcases (by omega : k = 0 ∨ k = 1) with rfl | rfl; exact h0; exact h1) (by simp [Cur.tot]; omega) (by omega) (by omega) (by omega)
  rw [← put16 (by simp; omega)]
  simpa [Cur.tot, Cur.catF] using this

set_option maxRecDepth 100000 in
set_option maxHeartbeats 3000000 in
theorem refmarb_any (ca hp : Bool) (p : Int) (w : World) : Calls Try.prog 45 #[.agg #[.bool ca, .bool hp, .int .i64 p]] w (Ent.MarP w (basL ca hp p) (basC ca hp p)) := by
  have V := Lib.hid (fun w => refvalidb_any ca hp p w)
  cases hv : basB ca hp p with
  | false =>
    obtain ⟨f1, f2⟩ := bas_no hv
    rw [f1, f2]
    rw [hv] at V
    clear hv f1 f2
    go_enter Try.func45, Try.ntmps45
    go_wp2_with fail
    go_must (go_fit (V.out _))
    rintro e w1 ⟨rfl, hb1⟩
    go_wp2
    go_ret2
    exact ⟨none, 0, rfl, Own.none_ _ _, bel1 hb1⟩
  | true =>
    obtain ⟨f1, f2⟩ := bas_yes hv
    obtain ⟨i1, i2, i3⟩ := basB_iff.1 hv
    rw [f1, f2]
    rw [hv] at V
    clear hv f1 f2
    have hnl := nm_len (c := 0) (t := 2) (by omega) (by omega) i1
    have N := Lib.hid (fun w => refnumber_any 2 2 p w (.inl (by decide)) (by omega) (int_bd i1))
    rw [if_pos (by decide)] at N
    clear i1
    cases ca with
    | false =>
      cases hp with
      | true => exact absurd (i2 rfl) (by decide)
      | false =>
        have F := Lib.hid (show basP false false p = [] from rfl)
        rw [F.out]
        clear i2 i3 hnl N
        go_enter Try.func45, Try.ntmps45
        go_wp2_with fail
        go_must (go_fit (V.out _))
        rintro e w1 ⟨rfl, hb1⟩
        have tb := blk1 hb1
        have BE := Lib.hid (bel1 hb1)
        obtain ⟨q0, q1, q2⟩ := cells3 tb
        have SQ := Lib.hid (put0 w1)
        clear tb hb1
        go_wp2_with fail
        go_must (go_fit SQ.out)
        rintro e w2 ⟨A2, c2, rfl, o2, hb2⟩
        go_wp2
        go_ret2
        exact ⟨A2, c2, rfl, o2.mono BE.out.size, two_belowK BE.out hb2 BE.out.size⟩
    | true =>
      cases hp with
      | false =>
        have F := Lib.hid (show basP true false p = [1, 1, 255] from rfl)
        rw [F.out]
        clear i2 i3 hnl N
        go_enter Try.func45, Try.ntmps45
        go_upto_region 4 with (first | (go_at_call 47; go_must (go_fit (V.out _)); rintro e w1 ⟨rfl, hb1⟩))
        have tb := blk1 hb1
        have bel := bel1 hb1
        obtain ⟨q0, q1, q2⟩ := cells3 tb
        go_upto_region 5 with fail
        have ow := Lib.hid (Own.lit (base := w.heap.size) w1 [1, 1, 255] bel.size (show (3 : Nat) ≤ maxLen by unfold maxLen; omega))
        have RL := Lib.hid (ow.out.rd)
        have TL := Lib.hid (bk_old (o' := .cells (vs [1, 1, 255]).toArray 5) tb)
        have BL := Lib.hid (bel.alloc bel.size (.cells (vs [1, 1, 255]).toArray 5))
        clear tb bel hb1 ow
        rw [show vs [1, 1, 255] = [.int .u8 1, .int .u8 1, .int .u8 255] from rfl] at RL TL BL
        generalize hW : w1.alloc (.cells [.int .u8 1, .int .u8 1, .int .u8 255].toArray 5) = w2 at RL TL BL
        have HW := Lib.hid hW
        clear hW
        have hz2 : w.heap.size ≤ (w1.alloc (.cells #[.int .u8 1, .int .u8 1, .int .u8 255] 5)).heap.size := by rw [show w1.alloc (.cells #[.int .u8 1, .int .u8 1, .int .u8 255] 5) = w2 from HW.out]; exact BL.out.size
        go_upto_region 6 with (first | (at_builtin; refine appS rfl (.tmp 10) (.tmp 12) 108 1 24 _ rfl Try.underlying108 infoSl rfl (by decide) (by decide) rfl (World.ownsRow_nil _ w.heap.size 29 1) rfl (one_slice _ _ _) rfl (by simp) (by omega) hz2 ?_; intro A4 c4 w4 o4 hg4 hb4 hs4))
        rw [show w1.alloc (.cells #[.int .u8 1, .int .u8 1, .int .u8 255] 5) = w2 from HW.out] at hg4 hb4
        simp only [List.nil_append, Nat.zero_add] at o4 ⊢
        have hs4' : (Value.slice A4 1 c4).ownBlock = (Value.slice none 0 0).ownBlock ∨ (Value.slice A4 1 c4).ownBlock = some (w2.heap.size + 1) := by rw [← HW.out, World.size_alloc]; exact hs4
        have R4 := Lib.hid (rd_grown RL.out (World.ownsRow_nil w2 w.heap.size 29 1) hg4 (fun _ _ => by simp [Value.ownBlock]))
        have D3 := Lib.hid (far_lo (c := c4) RL.out hs4')
        have B4 := Lib.hid (BL.out.trans hb4)
        have t4 := far_nil hg4 (bk_old TL.out)
        clear q0 q1 q2 hg4 hb4 hs4
        obtain ⟨q0, q1, q2⟩ := cells3 t4
        go_upto_region 8 with fail
        have SQ := Lib.hid (put1 w4 o4 R4.out (by omega))
        go_wp2_with fail
        go_must (go_fit SQ.out)
        rintro e w5 ⟨A5, c5, rfl, o5, hb5⟩
        go_wp2
        go_ret2
        exact ⟨A5, c5, rfl, o5.mono B4.out.size, two_belowK B4.out hb5 B4.out.size⟩
      | true =>
        have F := Lib.hid (show basP true true p = [1, 1, 255] ++ nmL 0 2 p from rfl)
        rw [F.out]
        generalize nmL 0 2 p = u at *
        clear i2 i3
        go_enter Try.func45, Try.ntmps45
        go_upto_region 4 with (first | (go_at_call 47; go_must (go_fit (V.out _)); rintro e w1 ⟨rfl, hb1⟩))
        have tb := blk1 hb1
        have bel := bel1 hb1
        obtain ⟨q0, q1, q2⟩ := cells3 tb
        go_upto_region 5 with fail
        have ow := Lib.hid (Own.lit (base := w.heap.size) w1 [1, 1, 255] bel.size (show (3 : Nat) ≤ maxLen by unfold maxLen; omega))
        have RL := Lib.hid (ow.out.rd)
        have TL := Lib.hid (bk_old (o' := .cells (vs [1, 1, 255]).toArray 5) tb)
        have BL := Lib.hid (bel.alloc bel.size (.cells (vs [1, 1, 255]).toArray 5))
        clear tb bel hb1 ow
        rw [show vs [1, 1, 255] = [.int .u8 1, .int .u8 1, .int .u8 255] from rfl] at RL TL BL
        generalize hW : w1.alloc (.cells [.int .u8 1, .int .u8 1, .int .u8 255].toArray 5) = w2 at RL TL BL
        have HW := Lib.hid hW
        clear hW
        have hz2 : w.heap.size ≤ (w1.alloc (.cells #[.int .u8 1, .int .u8 1, .int .u8 255] 5)).heap.size := by rw [show w1.alloc (.cells #[.int .u8 1, .int .u8 1, .int .u8 255] 5) = w2 from HW.out]; exact BL.out.size
        go_upto_region 6 with (first | (at_builtin; refine appS rfl (.tmp 10) (.tmp 12) 108 1 24 _ rfl Try.underlying108 infoSl rfl (by decide) (by decide) rfl (World.ownsRow_nil _ w.heap.size 29 1) rfl (one_slice _ _ _) rfl (by simp) (by omega) hz2 ?_; intro A4 c4 w4 o4 hg4 hb4 hs4))
        rw [show w1.alloc (.cells #[.int .u8 1, .int .u8 1, .int .u8 255] 5) = w2 from HW.out] at hg4 hb4
        simp only [List.nil_append, Nat.zero_add] at o4 ⊢
        have hs4' : (Value.slice A4 1 c4).ownBlock = (Value.slice none 0 0).ownBlock ∨ (Value.slice A4 1 c4).ownBlock = some (w2.heap.size + 1) := by rw [← HW.out, World.size_alloc]; exact hs4
        have R4 := Lib.hid (rd_grown RL.out (World.ownsRow_nil w2 w.heap.size 29 1) hg4 (fun _ _ => by simp [Value.ownBlock]))
        have D3 := Lib.hid (far_lo (c := c4) RL.out hs4')
        have B4 := Lib.hid (BL.out.trans hb4)
        have t4 := far_nil hg4 (bk_old TL.out)
        clear q0 q1 q2 hg4 hb4 hs4
        obtain ⟨q0, q1, q2⟩ := cells3 t4
        go_upto_region 7 with fail
        go_wp2_with fail
        go_must (go_fit (N.out _))
        rintro e w5 ⟨A5, c5, rfl, o5, hb5⟩
        have B5 := Lib.hid (two_belowK B4.out hb5 B4.out.size)
        have R5 := Lib.hid (R4.out.past hb5)
        have R6 := Lib.hid o5.rd
        have O5 := Lib.hid (owns_below o4 hb5 (Nat.le_refl _))
        have D5 := Lib.hid (far_hi o5 o4)
        clear hb5 o5 o4 R4 B4 q0 q1 q2
        have hz5 : w.heap.size ≤ w5.heap.size := B5.out.size
        go_upto_region 8 with (first | (at_builtin; refine appS rfl (.tmp 16) (.tmp 20) 108 1 24 _ rfl Try.underlying108 infoSl rfl (by decide) (by decide) rfl O5.out rfl (one_slice _ _ _) rfl rfl (by omega) hz5 ?_; intro A7 c7 w7 o7 hg7 hb7 hs7))
        have R7 := Lib.hid (rd_grown R5.out O5.out hg7 D3.out)
        have R8 := Lib.hid (rd_grown R6.out O5.out hg7 D5.out)
        have B7 := Lib.hid (B5.out.trans hb7)
        have SQ := Lib.hid (put2 w7 o7 R7.out R8.out (by omega) (by omega))
        clear hg7 hb7
        go_wp2_with fail
        go_must (go_fit SQ.out)
        rintro e w8 ⟨A8, c8, rfl, o8, hb8⟩
        go_wp2
        go_ret2
        exact ⟨A8, c8, rfl, o8.mono B7.out.size, two_belowK B7.out hb8 B7.out.size⟩
end Go.Proofs.Ytnpmgofkfdpbjaa.Bas
/- Walks: Valid and Marshal of policy constraints, both. -/
namespace Go.Proofs.Ytnpmgofkfdpbjaa.Bas
open Go.RowKit Kit Tlv

theorem cells4 {w : World} {b : Nat} {x0 x1 x2 x3 : Value} {t : TypeId} (h : w.heap[b]? = some (.cells #[x0, x1, x2, x3] t (0, 0))) :
    w.cell? ⟨b, 0, none⟩ = some x0 ∧ w.cell? ⟨b, 1, none⟩ = some x1 ∧ w.cell? ⟨b, 2, none⟩ = some x2 ∧ w.cell? ⟨b, 3, none⟩ = some x3 := by
  refine ⟨?_, ?_, ?_, ?_⟩ <;> (rw [cell_of_row w b _ _ _ _ h]; rfl)
abbrev skV (hr : Bool) (r : Int) (hi : Bool) (i : Int) : Value := .agg #[.bool hr, .int .i64 r, .bool hi, .int .i64 i]

set_option maxHeartbeats 2000000 in
theorem fits_any (h : Bool) (n : Int) (w : World) : Calls Try.prog 120 #[.bool h, .int .i64 n] w fun e w' => e = .returned (.bool (fitB h n)) ∧ Below w.heap.size w w' := by
  have V := Lib.hid (fun w => count_any n w)
  have F := Lib.hid (show fitB h n = (cntB n && (h || decide (n = 0))) from rfl)
  cases hc : cntB n with
  | false =>
    rw [hc] at V F
    clear hc
    go_enter Try.func120, Try.ntmps120
    go_wp2_with fail
    go_must (go_fit (V.out _))
    rintro e w1 ⟨rfl, hb1⟩
    go_wp2
    go_ret
    exact ⟨ret_bool (by rw [F.out]; rfl), hb1⟩
  | true =>
    rw [hc] at V F
    clear hc
    cases h with
    | true =>
      go_enter Try.func120, Try.ntmps120
      go_wp2_with fail
      go_must (go_fit (V.out _))
      rintro e w1 ⟨rfl, hb1⟩
      go_wp2
      go_ret
      exact ⟨ret_bool (by rw [F.out]; rfl), hb1⟩
    | false =>
      by_cases h0 : n = 0
      · subst h0
        go_enter Try.func120, Try.ntmps120
        go_wp2_with fail
        go_must (go_fit (V.out _))
        rintro e w1 ⟨rfl, hb1⟩
        go_wp2
        go_ret
        exact ⟨ret_bool (by rw [F.out]; rfl), hb1⟩
      · have hd : decide (n = 0) = false := by simpa using h0
        go_enter Try.func120, Try.ntmps120
        go_wp2_with fail
        go_must (go_fit (V.out _))
        rintro e w1 ⟨rfl, hb1⟩
        go_wp2
        go_ret
        exact ⟨ret_bool (by rw [F.out]; simp [h0]), hb1⟩

set_option maxRecDepth 100000 in
set_option maxHeartbeats 2000000 in
theorem valids_any (hr : Bool) (r : Int) (hi : Bool) (i : Int) (w : World) : Calls Try.prog 63 #[skV hr r hi i] w fun e w' => e = .returned (.bool (skiB hr r hi i)) ∧ Below w.heap.size w w' := by
  have V1 := Lib.hid (fun w => fits_any hr r w)
  have V2 := Lib.hid (fun w => fits_any hi i w)
  have F := Lib.hid (show skiB hr r hi i = ((hr || hi) && (fitB hr r && fitB hi i)) from rfl)
  generalize fitB hr r = f1 at *
  generalize fitB hi i = f2 at *
  by_cases hh : hr = false ∧ hi = false
  · obtain ⟨rfl, rfl⟩ := hh
    go_enter Try.func63, Try.ntmps63
    go_wp2
    go_ret
    exact ⟨ret_bool (by rw [F.out]; rfl), (by repeat' (first | (with_reducible exact Below.refl _ _) | (with_reducible assumption) | (with_reducible refine below_drewN ?_ _) | (with_reducible refine Below.drew ?_) | (with_reducible refine Below.alloc ?_ ?_ _) | (with_reducible refine Below.setCell ?_ ?_ _) | go_size))⟩
  · have R := Lib.hid (show skiB hr r hi i = (f1 && f2) from by rw [F.out]; cases hr <;> cases hi <;> simp at hh ⊢)
    cases f1 with
    | false =>
      cases hr <;> cases hi <;> (try (exact absurd ⟨rfl, rfl⟩ hh))
      all_goals
        clear hh
        go_enter Try.func63, Try.ntmps63
        go_wp2_with fail
        go_must (go_fit (V1.out _))
        rintro e w1 ⟨rfl, hb1⟩
        go_wp2
        go_ret
        exact ⟨ret_bool (by rw [R.out]; rfl), bel1 hb1⟩
    | true =>
      cases hr <;> cases hi <;> (try (exact absurd ⟨rfl, rfl⟩ hh))
      all_goals
        clear hh
        go_enter Try.func63, Try.ntmps63
        go_wp2_with fail
        go_must (go_fit (V1.out _))
        rintro e w1 ⟨rfl, hb1⟩
        have BE := Lib.hid (bel1 hb1)
        obtain ⟨q0, q1, q2, q3⟩ := cells4 (blk1 hb1)
        clear hb1
        go_wp2_with fail
        go_must (go_fit (V2.out _))
        rintro e w2 ⟨rfl, hb2⟩
        go_wp2
        go_ret
        exact ⟨ret_bool (by rw [R.out]; first | rfl | simp), two_belowK BE.out hb2 BE.out.size⟩

/-- the four ways of a part: with a count, without it, none, none but a number -/
theorem fit_ways (h : Bool) (n : Int) : (h = true ∧ cntB n = true ∧ fitB h n = true) ∨ (h = true ∧ cntB n = false ∧ n ≠ 0 ∧ fitB h n = false) ∨ (h = false ∧ n = 0 ∧ fitB h n = true) ∨ (h = false ∧ n ≠ 0 ∧ fitB h n = false) := by
  unfold fitB
  cases h <;> cases hc : cntB n
  · right; right; right
    refine ⟨rfl, fun h => ?_, by simp⟩
    subst h; simp [cntB] at hc
  · by_cases h0 : n = 0
    · right; right; left; exact ⟨rfl, h0, by simp [h0]⟩
    · right; right; right; exact ⟨rfl, h0, by simp [h0]⟩
  · right; left
    refine ⟨rfl, rfl, fun h => ?_, by simp⟩
    subst h; simp [cntB] at hc
  · left; exact ⟨rfl, rfl, by simp⟩
theorem blk1' (w : World) (o : Obj) : (w.alloc o).heap[w.heap.size]? = some o := heap_alloc_new w o

set_option maxRecDepth 100000 in
set_option maxHeartbeats 3000000 in
theorem refvalids_any (hr : Bool) (r : Int) (hi : Bool) (i : Int) (w : World) : Calls Try.prog 64 #[skV hr r hi i] w fun e w' => e = .returned (.bool (skiB hr r hi i)) ∧ Below w.heap.size w w' := by
  have V1 := Lib.hid (fun w => refcount_any r w)
  have V2 := Lib.hid (fun w => refcount_any i w)
  have F := Lib.hid (show skiB hr r hi i = ((hr || hi) && (fitB hr r && fitB hi i)) from rfl)
  rcases fit_ways hr r with ⟨rfl, c1, f1⟩ | ⟨rfl, c1, n1, f1⟩ | ⟨rfl, rfl, f1⟩ | ⟨rfl, n1, f1⟩
  · rw [c1] at V1
    rcases fit_ways hi i with ⟨rfl, c2, f2⟩ | ⟨rfl, c2, n2, f2⟩ | ⟨rfl, rfl, f2⟩ | ⟨rfl, n2, f2⟩
    · have R := Lib.hid (show skiB true r true i = true from by rw [F.out]; simp [f1, f2])
      rw [c2] at V2
      clear F f1 f2
      go_enter Try.func64, Try.ntmps64
      go_wp2_with fail
      go_must (go_fit (V1.out _))
      rintro e w1 ⟨rfl, hb1⟩
      have BE := Lib.hid (bel1 hb1)
      have T1 := Lib.hid (blk1 hb1)
      obtain ⟨q0, q1, q2, q3⟩ := cells4 (blk1 hb1)
      clear hb1
      go_wp2_with fail
      go_must (go_fit (V2.out _))
      rintro e w2 ⟨rfl, hb2⟩
      obtain ⟨z0, z1, z2, z3⟩ := cells4 (stayK T1.out hb2)
      go_wp2
      go_ret
      exact ⟨ret_bool (by rw [R.out]; try (first | rfl | simp [*])), two_belowK BE.out hb2 BE.out.size⟩
    · have R := Lib.hid (show skiB true r true i = false from by rw [F.out]; simp [f1, f2])
      rw [c2] at V2
      have d2 : decide (i = 0) = false := by simpa using n2
      clear F f1 f2
      go_enter Try.func64, Try.ntmps64
      go_wp2_with fail
      go_must (go_fit (V1.out _))
      rintro e w1 ⟨rfl, hb1⟩
      have BE := Lib.hid (bel1 hb1)
      have T1 := Lib.hid (blk1 hb1)
      obtain ⟨q0, q1, q2, q3⟩ := cells4 (blk1 hb1)
      clear hb1
      go_wp2_with fail
      go_must (go_fit (V2.out _))
      rintro e w2 ⟨rfl, hb2⟩
      obtain ⟨z0, z1, z2, z3⟩ := cells4 (stayK T1.out hb2)
      go_wp2
      go_ret
      exact ⟨ret_bool (by rw [R.out]; try (first | rfl | simp [*])), two_belowK BE.out hb2 BE.out.size⟩
    · have R := Lib.hid (show skiB true r false 0 = true from by rw [F.out]; simp [f1, f2])
      clear F f1 f2
      go_enter Try.func64, Try.ntmps64
      go_wp2_with fail
      go_must (go_fit (V1.out _))
      rintro e w1 ⟨rfl, hb1⟩
      have BE := Lib.hid (bel1 hb1)
      have T1 := Lib.hid (blk1 hb1)
      obtain ⟨q0, q1, q2, q3⟩ := cells4 (blk1 hb1)
      clear hb1
      go_wp2
      go_ret
      exact ⟨ret_bool (by rw [R.out]; try (first | rfl | simp [*])), BE.out⟩
    · have R := Lib.hid (show skiB true r false i = false from by rw [F.out]; simp [f1, f2])
      have d2 : decide (i = 0) = false := by simpa using n2
      clear F f1 f2
      go_enter Try.func64, Try.ntmps64
      go_wp2_with fail
      go_must (go_fit (V1.out _))
      rintro e w1 ⟨rfl, hb1⟩
      have BE := Lib.hid (bel1 hb1)
      have T1 := Lib.hid (blk1 hb1)
      obtain ⟨q0, q1, q2, q3⟩ := cells4 (blk1 hb1)
      clear hb1
      go_wp2
      go_ret
      exact ⟨ret_bool (by rw [R.out]; try (first | rfl | simp [*])), BE.out⟩
  · rw [c1] at V1
    have d1 : decide (r = 0) = false := by simpa using n1
    have R := Lib.hid (show skiB true r hi i = false from by rw [F.out, f1]; simp)
    clear F f1 V2
    go_enter Try.func64, Try.ntmps64
    go_wp2_with fail
    go_must (go_fit (V1.out _))
    rintro e w1 ⟨rfl, hb1⟩
    have BE := Lib.hid (bel1 hb1)
    have T1 := Lib.hid (blk1 hb1)
    obtain ⟨q0, q1, q2, q3⟩ := cells4 (blk1 hb1)
    clear hb1
    go_wp2
    go_ret
    exact ⟨ret_bool (by rw [R.out]; try (first | rfl | simp [*])), BE.out⟩
  · skip
    rcases fit_ways hi i with ⟨rfl, c2, f2⟩ | ⟨rfl, c2, n2, f2⟩ | ⟨rfl, rfl, f2⟩ | ⟨rfl, n2, f2⟩
    · have R := Lib.hid (show skiB false 0 true i = true from by rw [F.out]; simp [f1, f2])
      rw [c2] at V2
      clear F f1 f2
      go_enter Try.func64, Try.ntmps64
      go_wp2_with fail
      go_must (go_fit (V2.out _))
      rintro e w2 ⟨rfl, hb2⟩
      obtain ⟨z0, z1, z2, z3⟩ := cells4 (stayK (blk1' w (.cells #[.bool false, .int .i64 0, .bool true, .int .i64 i] 71)) hb2)
      go_wp2
      go_ret
      exact ⟨ret_bool (by rw [R.out]; try (first | rfl | simp [*])), bel1 hb2⟩
    · have R := Lib.hid (show skiB false 0 true i = false from by rw [F.out]; simp [f1, f2])
      rw [c2] at V2
      have d2 : decide (i = 0) = false := by simpa using n2
      clear F f1 f2
      go_enter Try.func64, Try.ntmps64
      go_wp2_with fail
      go_must (go_fit (V2.out _))
      rintro e w2 ⟨rfl, hb2⟩
      obtain ⟨z0, z1, z2, z3⟩ := cells4 (stayK (blk1' w (.cells #[.bool false, .int .i64 0, .bool true, .int .i64 i] 71)) hb2)
      go_wp2
      go_ret
      exact ⟨ret_bool (by rw [R.out]; try (first | rfl | simp [*])), bel1 hb2⟩
    · have R := Lib.hid (show skiB false 0 false 0 = false from by rw [F.out]; simp [f1, f2])
      clear F f1 f2
      go_enter Try.func64, Try.ntmps64
      go_wp2
      go_ret
      exact ⟨ret_bool (by rw [R.out]; try (first | rfl | simp [*])), (by repeat' (first | (with_reducible exact Below.refl _ _) | (with_reducible assumption) | (with_reducible refine below_drewN ?_ _) | (with_reducible refine Below.drew ?_) | (with_reducible refine Below.alloc ?_ ?_ _) | (with_reducible refine Below.setCell ?_ ?_ _) | go_size))⟩
    · have R := Lib.hid (show skiB false 0 false i = false from by rw [F.out]; simp [f1, f2])
      have d2 : decide (i = 0) = false := by simpa using n2
      clear F f1 f2
      go_enter Try.func64, Try.ntmps64
      go_wp2
      go_ret
      exact ⟨ret_bool (by rw [R.out]; try (first | rfl | simp [*])), (by repeat' (first | (with_reducible exact Below.refl _ _) | (with_reducible assumption) | (with_reducible refine below_drewN ?_ _) | (with_reducible refine Below.drew ?_) | (with_reducible refine Below.alloc ?_ ?_ _) | (with_reducible refine Below.setCell ?_ ?_ _) | go_size))⟩
  · have d1 : decide (r = 0) = false := by simpa using n1
    cases hi with
    | false =>
      have R := Lib.hid (show skiB false r false i = false from by rw [F.out, f1]; simp)
      clear F f1 V2 V1
      go_enter Try.func64, Try.ntmps64
      go_wp2
      go_ret
      exact ⟨ret_bool (by rw [R.out]; try (first | rfl | simp [*])), (by repeat' (first | (with_reducible exact Below.refl _ _) | (with_reducible assumption) | (with_reducible refine below_drewN ?_ _) | (with_reducible refine Below.drew ?_) | (with_reducible refine Below.alloc ?_ ?_ _) | (with_reducible refine Below.setCell ?_ ?_ _) | go_size))⟩
    | true =>
      have R := Lib.hid (show skiB false r true i = false from by rw [F.out, f1]; simp)
      clear F f1 V2 V1
      go_enter Try.func64, Try.ntmps64
      go_wp2
      go_ret
      exact ⟨ret_bool (by rw [R.out]; try (first | rfl | simp [*])), (by repeat' (first | (with_reducible exact Below.refl _ _) | (with_reducible assumption) | (with_reducible refine below_drewN ?_ _) | (with_reducible refine Below.drew ?_) | (with_reducible refine Below.alloc ?_ ?_ _) | (with_reducible refine Below.setCell ?_ ?_ _) | go_size))⟩
end Go.Proofs.Ytnpmgofkfdpbjaa.Bas
/- Walks: Marshal of policy constraints, both. -/
namespace Go.Proofs.Ytnpmgofkfdpbjaa.Bas
open Go.RowKit Kit Tlv

theorem nm_pos {c t n : Int} (hc : 0 ≤ c ∧ c ≤ 3) (ht : 0 ≤ t ∧ t ≤ 30) (h : cntB n = true) : 0 < (nmL c t n).length := by
  unfold nmL
  rw [enc_len (nm_code hc ht (int_bd h))]
  omega

set_option maxRecDepth 100000 in
set_option maxHeartbeats 4000000 in
theorem mars_any (hr : Bool) (r : Int) (hi : Bool) (i : Int) (w : World) : Calls Try.prog 61 #[skV hr r hi i] w (Ent.MarP w (skiL hr r hi i) (skiC hr r hi i)) := by
  have V := Lib.hid (fun w => valids_any hr r hi i w)
  cases hv : skiB hr r hi i with
  | false =>
    obtain ⟨f1, f2⟩ := ski_no hv
    rw [f1, f2]
    rw [hv] at V
    clear hv f1 f2
    go_enter Try.func61, Try.ntmps61
    go_wp2_with fail
    go_must (go_fit (V.out _))
    rintro e w1 ⟨rfl, hb1⟩
    go_wp2
    go_ret2
    exact ⟨none, 0, rfl, Own.none_ _ _, bel1 hb1⟩
  | true =>
    obtain ⟨f1, f2⟩ := ski_yes hv
    obtain ⟨i0, i1, i2, i3, i4⟩ := skiB_iff.1 hv
    rw [f1, f2]
    rw [hv] at V
    clear hv f1 f2
    have n1 := nm_len (c := 2) (t := 0) (by omega) (by omega) i1
    have n2 := nm_len (c := 2) (t := 1) (by omega) (by omega) i3
    have m1 : 0 < (nmL 2 0 r).length := nm_pos (by omega) (by omega) i1
    have N1 := Lib.hid (fun w => number_any 2 0 r w (by omega) (by omega) (int_bd i1))
    have N2 := Lib.hid (fun w => number_any 2 1 i w (by omega) (by omega) (int_bd i3))
    clear i1 i3
    cases hr with
    | false =>
      obtain rfl := i2 rfl
      cases hi with
      | false => rcases i0 with h | h <;> cases h
      | true =>
        clear i0 i2 i4 m1
        have F := Lib.hid (show skiP false 0 true i = [] ++ nmL 2 1 i from rfl)
        rw [F.out]
        clear N1 n1
        generalize nmL 2 1 i = v at *
        simp only [List.nil_append]
        go_enter Try.func61, Try.ntmps61
        go_wp2_with fail
        go_must (go_fit (V.out _))
        rintro e w1 ⟨rfl, hb1⟩
        have T1 := Lib.hid (blk1 hb1)
        have B1 := Lib.hid (bel1 hb1)
        obtain ⟨q0, q1, q2, q3⟩ := cells4 T1.out
        have hz0 : w.heap.size < w1.heap.size := Blk_lt T1.out
        clear hb1
        go_wp2_with fail
        refine wp_loop_rounds 3 ?_
        rw [rounds_succ]
        go_wp2_with fail
        rw [rounds_succ]
        go_wp2_with fail
        go_must (go_fit (N2.out _))
        rintro e w2 ⟨A2, c2, rfl, o2, hb2⟩
        have B2 := Lib.hid (((B1.out.alloc B1.out.size _).alloc (by simp; omega) _).trans (hb2.mono (by simp; omega)))
        have U2 := Lib.hid (stayK (bk_old (bk_new (o := .cells #[.bool false, .bool true] 4) rfl)) hb2)
        have R2 := Lib.hid o2.rd
        have hz2 : w1.heap.size + 1 ≤ w2.heap.size := Blk_lt U2.out
        clear hb2 o2 q0 q1 q2 q3
        go_upto_region 12 with (first | (at_builtin; refine appS rfl (.tmp 41) (.tmp 43) 108 1 24 _ rfl Try.underlying108 infoSl rfl (by decide) (by decide) rfl (World.ownsRow_nil w2 (w1.heap.size + 1) 29 1) rfl (one_slice _ _ _) rfl rfl (by omega) hz2 ?_; intro A4 c4 w4 o4 hg4 hb4 hs4))
        simp only [List.nil_append, Nat.zero_add] at o4 ⊢
        have R4 := Lib.hid (rd_grown R2.out (World.ownsRow_nil w2 (w1.heap.size + 1) 29 1) hg4 (fun _ _ => by simp [Value.ownBlock]))
        have B4 := Lib.hid (B2.out.trans (hb4.mono (by omega)))
        clear hg4 hb4 hs4
        have O4 := Lib.hid o4
        clear o4
        go_wp2_with fail
        rw [rounds_succ]
        have SQ := Lib.hid (seq_any w4 (cat1 w4 O4.out R4.out (by omega)) (by omega) (by omega))
        go_wp2_with fail
        go_must (go_fit SQ.out)
        rintro e w8 ⟨A8, c8, rfl, o8, hb8⟩
        go_wp2
        go_ret2
        exact ⟨A8, c8, rfl, o8.mono B4.out.size, two_belowK B4.out hb8 B4.out.size⟩
    | true =>
      cases hi with
      | false =>
        obtain rfl := i4 rfl
        clear i0 i2 i4
        have F := Lib.hid (show skiP true r false 0 = nmL 2 0 r ++ [] from rfl)
        rw [F.out]
        generalize nmL 2 0 r = u at *
        clear N2 n2
        simp only [List.append_nil]
        go_enter Try.func61, Try.ntmps61
        go_wp2_with fail
        go_must (go_fit (V.out _))
        rintro e w1 ⟨rfl, hb1⟩
        have T1 := Lib.hid (blk1 hb1)
        have B1 := Lib.hid (bel1 hb1)
        obtain ⟨q0, q1, q2, q3⟩ := cells4 T1.out
        have hz0 : w.heap.size < w1.heap.size := Blk_lt T1.out
        clear hb1
        go_wp2_with fail
        refine wp_loop_rounds 3 ?_
        rw [rounds_succ]
        go_wp2_with fail
        go_must (go_fit (N1.out _))
        rintro e w2 ⟨A2, c2, rfl, o2, hb2⟩
        have T2 := Lib.hid (stayK (bk_old (bk_old T1.out)) hb2)
        have U2 := Lib.hid (stayK (bk_old (bk_new (o := .cells #[.bool true, .bool false] 4) rfl)) hb2)
        have B2 := Lib.hid (((B1.out.alloc B1.out.size _).alloc (by simp; omega) _).trans (hb2.mono (by simp; omega)))
        have R2 := Lib.hid o2.rd
        have hz2 : w1.heap.size + 1 ≤ w2.heap.size := Blk_lt U2.out
        clear hb2 o2 q0 q1 q2 q3
        obtain ⟨q0, q1, q2, q3⟩ := cells4 T2.out
        obtain ⟨p0, p1⟩ := cells2 U2.out
        go_upto_region 12 with (first | (at_builtin; refine appS rfl (.tmp 41) (.tmp 43) 108 1 24 _ rfl Try.underlying108 infoSl rfl (by decide) (by decide) rfl (World.ownsRow_nil w2 (w1.heap.size + 1) 29 1) rfl (one_slice _ _ _) rfl rfl (by omega) hz2 ?_; intro A4 c4 w4 o4 hg4 hb4 hs4))
        simp only [List.nil_append, Nat.zero_add] at o4 ⊢
        have R4 := Lib.hid (rd_grown R2.out (World.ownsRow_nil w2 (w1.heap.size + 1) 29 1) hg4 (fun _ _ => by simp [Value.ownBlock]))
        have D4 := Lib.hid (far_lo (c := c4) R2.out hs4 (by omega))
        have B4 := Lib.hid (B2.out.trans (hb4.mono (by omega)))
        have T4 := Lib.hid (far_nil hg4 (bk_old T2.out))
        have U4 := Lib.hid (far_nil hg4 (bk_old U2.out))
        clear q0 q1 q2 q3 p0 p1 hg4 hb4 hs4
        obtain ⟨q0, q1, q2, q3⟩ := cells4 T4.out
        obtain ⟨p0, p1⟩ := cells2 U4.out
        have O4 := Lib.hid o4
        clear o4
        go_wp2_with fail
        rw [rounds_succ]
        go_wp2_with fail
        rw [rounds_succ]
        have SQ := Lib.hid (seq_any w4 (cat1 w4 O4.out R4.out (by omega)) (by omega) (by omega))
        go_wp2_with fail
        go_must (go_fit SQ.out)
        rintro e w8 ⟨A8, c8, rfl, o8, hb8⟩
        go_wp2
        go_ret2
        exact ⟨A8, c8, rfl, o8.mono B4.out.size, two_belowK B4.out hb8 B4.out.size⟩
      | true =>
        clear i0 i2 i4
        have F := Lib.hid (show skiP true r true i = nmL 2 0 r ++ nmL 2 1 i from rfl)
        rw [F.out]
        generalize nmL 2 0 r = u at *
        generalize nmL 2 1 i = v at *
        skip
        go_enter Try.func61, Try.ntmps61
        go_wp2_with fail
        go_must (go_fit (V.out _))
        rintro e w1 ⟨rfl, hb1⟩
        have T1 := Lib.hid (blk1 hb1)
        have B1 := Lib.hid (bel1 hb1)
        obtain ⟨q0, q1, q2, q3⟩ := cells4 T1.out
        have hz0 : w.heap.size < w1.heap.size := Blk_lt T1.out
        clear hb1
        go_wp2_with fail
        refine wp_loop_rounds 3 ?_
        rw [rounds_succ]
        go_wp2_with fail
        go_must (go_fit (N1.out _))
        rintro e w2 ⟨A2, c2, rfl, o2, hb2⟩
        have T2 := Lib.hid (stayK (bk_old (bk_old T1.out)) hb2)
        have U2 := Lib.hid (stayK (bk_old (bk_new (o := .cells #[.bool true, .bool true] 4) rfl)) hb2)
        have B2 := Lib.hid (((B1.out.alloc B1.out.size _).alloc (by simp; omega) _).trans (hb2.mono (by simp; omega)))
        have R2 := Lib.hid o2.rd
        have hz2 : w1.heap.size + 1 ≤ w2.heap.size := Blk_lt U2.out
        clear hb2 o2 q0 q1 q2 q3
        obtain ⟨q0, q1, q2, q3⟩ := cells4 T2.out
        obtain ⟨p0, p1⟩ := cells2 U2.out
        go_upto_region 12 with (first | (at_builtin; refine appS rfl (.tmp 41) (.tmp 43) 108 1 24 _ rfl Try.underlying108 infoSl rfl (by decide) (by decide) rfl (World.ownsRow_nil w2 (w1.heap.size + 1) 29 1) rfl (one_slice _ _ _) rfl rfl (by omega) hz2 ?_; intro A4 c4 w4 o4 hg4 hb4 hs4))
        simp only [List.nil_append, Nat.zero_add] at o4 ⊢
        have R4 := Lib.hid (rd_grown R2.out (World.ownsRow_nil w2 (w1.heap.size + 1) 29 1) hg4 (fun _ _ => by simp [Value.ownBlock]))
        have D4 := Lib.hid (far_lo (c := c4) R2.out hs4 (by omega))
        have B4 := Lib.hid (B2.out.trans (hb4.mono (by omega)))
        have T4 := Lib.hid (far_nil hg4 (bk_old T2.out))
        have U4 := Lib.hid (far_nil hg4 (bk_old U2.out))
        clear q0 q1 q2 q3 p0 p1 hg4 hb4 hs4
        obtain ⟨q0, q1, q2, q3⟩ := cells4 T4.out
        obtain ⟨p0, p1⟩ := cells2 U4.out
        have O4 := Lib.hid o4
        clear o4
        go_wp2_with fail
        rw [rounds_succ]
        go_wp2_with fail
        go_must (go_fit (N2.out _))
        rintro e w5 ⟨A5, c5, rfl, o5, hb5⟩
        have T5 := Lib.hid (stayK (bk_old T4.out) hb5)
        have U5 := Lib.hid (stayK (bk_old U4.out) hb5)
        have B5 := Lib.hid ((B4.out.alloc B4.out.size _).trans (hb5.mono (by have := B4.out.size; simp; omega)))
        have R5 := Lib.hid ((R4.out.allocS (.cells #[.int .i64 r, .int .i64 i] 3)).past hb5)
        have R6 := Lib.hid o5.rd
        have O5 := Lib.hid (owns_below (O4.out.alloc (.cells #[.int .i64 r, .int .i64 i] 3)) hb5 (Nat.le_refl _))
        have D5 := Lib.hid (far_hi o5 (O4.out.alloc (.cells #[.int .i64 r, .int .i64 i] 3)))
        have hz5 : w1.heap.size + 1 ≤ w5.heap.size := Blk_lt U5.out
        clear hb5 o5 q0 q1 q2 q3 p0 p1
        obtain ⟨q0, q1, q2, q3⟩ := cells4 T5.out
        obtain ⟨p0, p1⟩ := cells2 U5.out
        go_upto_region 12 with (first | (at_builtin; refine appS rfl (.tmp 41) (.tmp 43) 108 1 24 _ rfl Try.underlying108 infoSl rfl (by decide) (by decide) rfl O5.out rfl (one_slice _ _ _) rfl rfl (by omega) hz5 ?_; intro A7 c7 w7 o7 hg7 hb7 hs7))
        have R7 := Lib.hid (rd_grown R5.out O5.out hg7 D4.out)
        have R8 := Lib.hid (rd_grown R6.out O5.out hg7 D5.out)
        have B7 := Lib.hid (B5.out.trans (hb7.mono (by omega)))
        have T7 := Lib.hid (far_own O5.out hg7 (bk_old T5.out) (.inl (by omega)))
        have U7 := Lib.hid (far_own O5.out hg7 (bk_old U5.out) (.inl (by omega)))
        clear q0 q1 q2 q3 p0 p1 hg7 hb7 hs7
        have O7 := Lib.hid o7
        clear o7
        go_wp2_with fail
        rw [rounds_succ]
        have SQ := Lib.hid (seq_any w7 (cat2 w7 O7.out R7.out R8.out (by omega) (by omega)) (by omega) (by simp; omega))
        go_wp2_with fail
        go_must (go_fit SQ.out)
        rintro e w8 ⟨A8, c8, rfl, o8, hb8⟩
        go_wp2
        go_ret2
        exact ⟨A8, c8, rfl, o8.mono B7.out.size, two_belowK B7.out hb8 B7.out.size⟩

set_option maxRecDepth 100000 in
set_option maxHeartbeats 4000000 in
theorem refmars_any (hr : Bool) (r : Int) (hi : Bool) (i : Int) (w : World) : Calls Try.prog 62 #[skV hr r hi i] w (Ent.MarP w (skiL hr r hi i) (skiC hr r hi i)) := by
  have V := Lib.hid (fun w => refvalids_any hr r hi i w)
  cases hv : skiB hr r hi i with
  | false =>
    obtain ⟨f1, f2⟩ := ski_no hv
    rw [f1, f2]
    rw [hv] at V
    clear hv f1 f2
    go_enter Try.func62, Try.ntmps62
    go_wp2_with fail
    go_must (go_fit (V.out _))
    rintro e w1 ⟨rfl, hb1⟩
    go_wp2
    go_ret2
    exact ⟨none, 0, rfl, Own.none_ _ _, bel1 hb1⟩
  | true =>
    obtain ⟨f1, f2⟩ := ski_yes hv
    obtain ⟨i0, i1, i2, i3, i4⟩ := skiB_iff.1 hv
    rw [f1, f2]
    rw [hv] at V
    clear hv f1 f2
    have n1 := nm_len (c := 2) (t := 0) (by omega) (by omega) i1
    have n2 := nm_len (c := 2) (t := 1) (by omega) (by omega) i3
    have m1 : 0 < (nmL 2 0 r).length := nm_pos (by omega) (by omega) i1
    have N1 := Lib.hid (fun w => refnumber_any 128 0 r w (.inr (by decide)) (by omega) (int_bd i1))
    have N2 := Lib.hid (fun w => refnumber_any 129 1 i w (.inr (by decide)) (by omega) (int_bd i3))
    rw [if_neg (by decide)] at N1 N2
    clear i1 i3
    cases hr with
    | false =>
      obtain rfl := i2 rfl
      cases hi with
      | false => rcases i0 with h | h <;> cases h
      | true =>
        clear i0 i2 i4 m1
        have F := Lib.hid (show skiP false 0 true i = [] ++ nmL 2 1 i from rfl)
        rw [F.out]
        clear N1 n1
        generalize nmL 2 1 i = v at *
        simp only [List.nil_append]
        go_enter Try.func62, Try.ntmps62
        go_wp2_with fail
        go_must (go_fit (V.out _))
        rintro e w1 ⟨rfl, hb1⟩
        have T1 := Lib.hid (blk1 hb1)
        have B1 := Lib.hid (bel1 hb1)
        obtain ⟨q0, q1, q2, q3⟩ := cells4 T1.out
        have hz0 : w.heap.size < w1.heap.size := Blk_lt T1.out
        clear hb1
        go_wp2_with fail
        go_must (go_fit (N2.out _))
        rintro e w2 ⟨A2, c2, rfl, o2, hb2⟩
        have T2 := Lib.hid (stayK T1.out hb2)
        have B2 := Lib.hid (two_belowK B1.out hb2 B1.out.size)
        have R2 := Lib.hid o2.rd
        have hz2 : w.heap.size + 1 ≤ w2.heap.size := Blk_lt T2.out
        clear hb2 o2 q0 q1 q2 q3
        go_upto_region 8 with (first | (at_builtin; refine appS rfl (.tmp 18) (.tmp 22) 108 1 24 _ rfl Try.underlying108 infoSl rfl (by decide) (by decide) rfl (World.ownsRow_nil w2 (w.heap.size + 1) 29 1) rfl (one_slice _ _ _) rfl rfl (by omega) hz2 ?_; intro A4 c4 w4 o4 hg4 hb4 hs4))
        simp only [List.nil_append, Nat.zero_add] at o4 ⊢
        have R4 := Lib.hid (rd_grown R2.out (World.ownsRow_nil w2 (w.heap.size + 1) 29 1) hg4 (fun _ _ => by simp [Value.ownBlock]))
        have B4 := Lib.hid (B2.out.trans (hb4.mono (by omega)))
        have SQ := Lib.hid (put1 w4 o4 R4.out (by omega))
        clear hg4 hb4 hs4 o4
        go_wp2_with fail
        go_must (go_fit SQ.out)
        rintro e w8 ⟨A8, c8, rfl, o8, hb8⟩
        go_wp2
        go_ret2
        exact ⟨A8, c8, rfl, o8.mono B4.out.size, two_belowK B4.out hb8 B4.out.size⟩
    | true =>
      cases hi with
      | false =>
        obtain rfl := i4 rfl
        clear i0 i2 i4
        have F := Lib.hid (show skiP true r false 0 = nmL 2 0 r ++ [] from rfl)
        rw [F.out]
        generalize nmL 2 0 r = u at *
        clear N2 n2
        simp only [List.append_nil]
        go_enter Try.func62, Try.ntmps62
        go_wp2_with fail
        go_must (go_fit (V.out _))
        rintro e w1 ⟨rfl, hb1⟩
        have T1 := Lib.hid (blk1 hb1)
        have B1 := Lib.hid (bel1 hb1)
        obtain ⟨q0, q1, q2, q3⟩ := cells4 T1.out
        have hz0 : w.heap.size < w1.heap.size := Blk_lt T1.out
        clear hb1
        go_wp2_with fail
        go_must (go_fit (N1.out _))
        rintro e w2 ⟨A2, c2, rfl, o2, hb2⟩
        have T2 := Lib.hid (stayK T1.out hb2)
        have B2 := Lib.hid (two_belowK B1.out hb2 B1.out.size)
        have R2 := Lib.hid o2.rd
        have hz2 : w.heap.size + 1 ≤ w2.heap.size := Blk_lt T2.out
        clear hb2 o2 q0 q1 q2 q3
        obtain ⟨q0, q1, q2, q3⟩ := cells4 T2.out
        go_upto_region 6 with (first | (at_builtin; refine appS rfl (.tmp 10) (.tmp 14) 108 1 24 _ rfl Try.underlying108 infoSl rfl (by decide) (by decide) rfl (World.ownsRow_nil w2 (w.heap.size + 1) 29 1) rfl (one_slice _ _ _) rfl rfl (by omega) hz2 ?_; intro A4 c4 w4 o4 hg4 hb4 hs4))
        simp only [List.nil_append, Nat.zero_add] at o4 ⊢
        have R4 := Lib.hid (rd_grown R2.out (World.ownsRow_nil w2 (w.heap.size + 1) 29 1) hg4 (fun _ _ => by simp [Value.ownBlock]))
        have D4 := Lib.hid (far_lo (c := c4) R2.out hs4 (by omega))
        have B4 := Lib.hid (B2.out.trans (hb4.mono (by omega)))
        have T4 := Lib.hid (far_nil hg4 (bk_old T2.out))
        clear q0 q1 q2 q3 hg4 hb4 hs4
        obtain ⟨q0, q1, q2, q3⟩ := cells4 T4.out
        have O4 := Lib.hid o4
        clear o4
        have SQ := Lib.hid (put1 w4 O4.out R4.out (by omega))
        go_wp2_with fail
        go_must (go_fit SQ.out)
        rintro e w8 ⟨A8, c8, rfl, o8, hb8⟩
        go_wp2
        go_ret2
        exact ⟨A8, c8, rfl, o8.mono B4.out.size, two_belowK B4.out hb8 B4.out.size⟩
      | true =>
        clear i0 i2 i4
        have F := Lib.hid (show skiP true r true i = nmL 2 0 r ++ nmL 2 1 i from rfl)
        rw [F.out]
        generalize nmL 2 0 r = u at *
        generalize nmL 2 1 i = v at *
        skip
        go_enter Try.func62, Try.ntmps62
        go_wp2_with fail
        go_must (go_fit (V.out _))
        rintro e w1 ⟨rfl, hb1⟩
        have T1 := Lib.hid (blk1 hb1)
        have B1 := Lib.hid (bel1 hb1)
        obtain ⟨q0, q1, q2, q3⟩ := cells4 T1.out
        have hz0 : w.heap.size < w1.heap.size := Blk_lt T1.out
        clear hb1
        go_wp2_with fail
        go_must (go_fit (N1.out _))
        rintro e w2 ⟨A2, c2, rfl, o2, hb2⟩
        have T2 := Lib.hid (stayK T1.out hb2)
        have B2 := Lib.hid (two_belowK B1.out hb2 B1.out.size)
        have R2 := Lib.hid o2.rd
        have hz2 : w.heap.size + 1 ≤ w2.heap.size := Blk_lt T2.out
        clear hb2 o2 q0 q1 q2 q3
        obtain ⟨q0, q1, q2, q3⟩ := cells4 T2.out
        go_upto_region 6 with (first | (at_builtin; refine appS rfl (.tmp 10) (.tmp 14) 108 1 24 _ rfl Try.underlying108 infoSl rfl (by decide) (by decide) rfl (World.ownsRow_nil w2 (w.heap.size + 1) 29 1) rfl (one_slice _ _ _) rfl rfl (by omega) hz2 ?_; intro A4 c4 w4 o4 hg4 hb4 hs4))
        simp only [List.nil_append, Nat.zero_add] at o4 ⊢
        have R4 := Lib.hid (rd_grown R2.out (World.ownsRow_nil w2 (w.heap.size + 1) 29 1) hg4 (fun _ _ => by simp [Value.ownBlock]))
        have D4 := Lib.hid (far_lo (c := c4) R2.out hs4 (by omega))
        have B4 := Lib.hid (B2.out.trans (hb4.mono (by omega)))
        have T4 := Lib.hid (far_nil hg4 (bk_old T2.out))
        clear q0 q1 q2 q3 hg4 hb4 hs4
        obtain ⟨q0, q1, q2, q3⟩ := cells4 T4.out
        have O4 := Lib.hid o4
        clear o4
        go_wp2_with fail
        go_must (go_fit (N2.out _))
        rintro e w5 ⟨A5, c5, rfl, o5, hb5⟩
        have T5 := Lib.hid (stayK T4.out hb5)
        have B5 := Lib.hid (two_belowK B4.out hb5 B4.out.size)
        have R5 := Lib.hid (R4.out.past hb5)
        have R6 := Lib.hid o5.rd
        have O5 := Lib.hid (owns_below O4.out hb5 (Nat.le_refl _))
        have D5 := Lib.hid (far_hi o5 O4.out)
        have hz5 : w.heap.size + 1 ≤ w5.heap.size := Blk_lt T5.out
        clear hb5 o5 q0 q1 q2 q3
        go_upto_region 8 with (first | (at_builtin; refine appS rfl (.tmp 18) (.tmp 22) 108 1 24 _ rfl Try.underlying108 infoSl rfl (by decide) (by decide) rfl O5.out rfl (one_slice _ _ _) rfl rfl (by omega) hz5 ?_; intro A7 c7 w7 o7 hg7 hb7 hs7))
        have R7 := Lib.hid (rd_grown R5.out O5.out hg7 D4.out)
        have R8 := Lib.hid (rd_grown R6.out O5.out hg7 D5.out)
        have B7 := Lib.hid (B5.out.trans (hb7.mono (by omega)))
        have SQ := Lib.hid (put2 w7 o7 R7.out R8.out (by omega) (by omega))
        clear hg7 hb7 hs7 o7
        go_wp2_with fail
        go_must (go_fit SQ.out)
        rintro e w8 ⟨A8, c8, rfl, o8, hb8⟩
        go_wp2
        go_ret2
        exact ⟨A8, c8, rfl, o8.mono B7.out.size, two_belowK B7.out hb8 B7.out.size⟩
end Go.Proofs.Ytnpmgofkfdpbjaa.Bas
