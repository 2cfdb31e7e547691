/- Joined texts: Prim, ReaA, ReaB. -/
import Derived.Deep.DeepFit
import Derived.Test.YtnpmgofkfdpbjaaKN
import Derived.Test.YtnpmgofkfdpbjaaKL
import Derived.Test.YtnpmgofkfdpbjaaKV
import Derived.Test.YtnpmgofkfdpbjaaKI
import Derived.Test.YtnpmgofkfdpbjaaKA
set_option linter.unusedSimpArgs false
set_option linter.unusedVariables false
/- Walks: primitive of the package entry, over any closure that decodes. -/
namespace Go.Proofs.Ytnpmgofkfdpbjaa.Kit
open Go.RowKit
theorem stay_grown {w w' : World} {b cb : Nat} {o : Obj} (h : w.heap[b]? = some o) (hg : w.grownBy w' (some cb)) (hne : b ≠ cb) : w'.heap[b]? = some o := (hg.block b (Blk_lt h) (by simpa using hne)).trans h
theorem free2' {w : World} {b : Nat} {cs : Array Value} {t : TypeId} (h : w.heap[b]? = some (.cells cs t (0, 0))) : w.frozen? ⟨b, 0, none⟩ = false ∧ w.frozen? ⟨b, 1, none⟩ = false :=
  ⟨frozen_of_row w b 0 _ _ h, frozen_of_row w b 1 _ _ h⟩
/-- a world of which nothing but this is kept -/
theorem wp_abst' {P : Program} {cd : Code} {Q : Exit → Act → World → Prop} {a : Act} {W : World} (R : World → Prop) (h : R W) (k : ∀ w2, R w2 → cd.wp P Q a w2) : cd.wp P Q a W := k W h
end Go.Proofs.Ytnpmgofkfdpbjaa.Kit
namespace Go.Proofs.Ytnpmgofkfdpbjaa.Ent
open Go.RowKit Kit Tlv

/-- the blocks of a running primitive: the result, the element, its error -/
def QB (w : World) (b4 : Nat) (es xs rs : Array Value) (X : World) : Prop :=
  X.heap[w.heap.size]? = some (.cells es 36 (0, 0)) ∧ X.heap[b4]? = some (.cells xs 93 (0, 0)) ∧ X.heap[b4 + 1]? = some (.cells rs 36 (0, 0)) ∧ Below w.heap.size w X ∧ w.heap.size + 1 ≤ b4
theorem QB.past {w X Y : World} {b4 : Nat} {es xs rs : Array Value} (h : QB w b4 es xs rs X) (hb : Below X.heap.size X Y) : QB w b4 es xs rs Y :=
  ⟨stayK h.1 hb, stayK h.2.1 hb, stayK h.2.2.1 hb, h.2.2.2.1.trans (hb.mono h.2.2.2.1.size), h.2.2.2.2⟩
theorem QB.rd {w X : World} {b4 : Nat} {es xs rs : Array Value} {A : Option Addr} {n B : Nat} {l : List UInt8} (h : QB w b4 es xs rs X) (hr : Rd w B A n l) (hB : B ≤ w.heap.size) : Rd X X.heap.size A n l :=
  (hr.below (h.2.2.2.1.mono hB)).more (Nat.le_trans hB h.2.2.2.1.size)

set_option maxRecDepth 100000 in
set_option maxHeartbeats 2000000 in
theorem prim_err {A : Option Addr} {n c B : Nat} {l : List UInt8} {x0 x1 x3 x4 x5 r1 r2 : Int} {x2 : Bool} (F : FuncId) (cb : Nat) (nu : Int) (w : World) (hr : Rd w B A n l) (hB : B ≤ w.heap.size) (hc : n ≤ c) (hm : c ≤ maxLen) (hn : n ≤ 1000000)
    (hone : oneV l = (⟨x0, x1, x2, x3, x4, x5⟩, r1, r2)) (hz : ¬ r1 = 0) :
    Calls Try.prog 93 #[.slice A n c, .int .i64 nu, .func (.func F) #[] #[.pointer (some ⟨cb, 0, none⟩)]] w fun e w' => e = .returned (err r1 r2) ∧ Below w.heap.size w w' := by
  have ON := Lib.hid (fun (X : World) (h : Below w.heap.size w X) => one_any (c := c) X (hr.below (h.mono hB)) (by have := h.size; omega) hc hm (by omega))
  have hl := hr.len
  have HR := Lib.hid hr
  rw [hone] at ON
  simp only [elR, elT] at ON
  clear hr hone
  go_enter Try.func93, Try.ntmps93
  go_upto_region 2 with (first | (go_at_call 88; go_must (go_fit (ON.out _ ((Below.refl _ _).alloc (Nat.le_refl _) _))); rintro e w1 ⟨rfl, hb1⟩; have t2 := blk1 hb1; have bel := bel1 hb1; have zs := hb1.size; simp only [World.size_alloc] at zs))
  refine wp_abst' (QB w w1.heap.size #[.int .i64 0, .int .i64 0] #[.int .i64 x0, .int .i64 x1, .bool x2, .int .i64 x3, .int .i64 x4, .int .i64 x5] #[.int .i64 r1, .int .i64 r2]) ?_ ?_
  · exact ⟨bk_old (bk_old t2), bk_old (bk_new rfl), bk_new (by simp), (by repeat' (first | (with_reducible exact Below.refl _ _) | (with_reducible assumption) | (with_reducible refine below_drewN ?_ _) | (with_reducible refine Below.drew ?_) | (with_reducible refine Below.alloc ?_ ?_ _) | (with_reducible refine Below.setCell ?_ ?_ _) | go_size)), by omega⟩
  intro w2 hp
  clear t2 bel zs hb1 ON
  generalize w1.heap.size = b4 at *
  clear w1
  have n1 : ¬ b4 = w.heap.size := by have := hp.2.2.2.2; omega
  have n2 : ¬ w.heap.size = b4 := by have := hp.2.2.2.2; omega
  have n3 : ¬ b4 + 1 = w.heap.size := by have := hp.2.2.2.2; omega
  have n4 : ¬ w.heap.size = b4 + 1 := by have := hp.2.2.2.2; omega
  have HP2 := Lib.hid hp
  obtain ⟨te, tx, tr, -, -⟩ := hp
  obtain ⟨s0, s1⟩ := cells2 te
  obtain ⟨g0, g1⟩ := free2' te
  obtain ⟨u0, u1, u2, u3, u4, u5⟩ := cells6 tx
  obtain ⟨v0, v1⟩ := cells2 tr
  clear te tx tr
  go_wp2
  clear s0 s1 g0 g1 u0 u1 u2 u3 u4 u5 v0 v1
  have td := cells2 (set2 (.int .i64 r1) (.int .i64 r2) HP2.out.1)
  have bel := HP2.out.2.2.2.1
  refine bodyPost_ret (v := err r1 r2) (by simp [results, Try.results93, go_sem, *]) rfl ?_
  exact ⟨rfl, (by repeat' (first | (with_reducible exact Below.refl _ _) | (with_reducible assumption) | (with_reducible refine below_drewN ?_ _) | (with_reducible refine Below.drew ?_) | (with_reducible refine Below.alloc ?_ ?_ _) | (with_reducible refine Below.setCell ?_ ?_ _) | go_size))⟩

set_option maxRecDepth 100000 in
set_option maxHeartbeats 2000000 in
theorem prim_tag {A : Option Addr} {n c B : Nat} {l : List UInt8} {x0 x1 x3 x4 x5 r1 r2 : Int} {x2 : Bool} (F : FuncId) (cb : Nat) (nu : Int) (w : World) (hr : Rd w B A n l) (hB : B ≤ w.heap.size) (hc : n ≤ c) (hm : c ≤ maxLen) (hn : n ≤ 1000000)
    (hone : oneV l = (⟨x0, x1, x2, x3, x4, x5⟩, r1, r2)) (hz : r1 = 0) (hT : ¬ ((x0 = 0 ∧ x2 = false) ∧ x1 = nu)) :
    Calls Try.prog 93 #[.slice A n c, .int .i64 nu, .func (.func F) #[] #[.pointer (some ⟨cb, 0, none⟩)]] w fun e w' => e = .returned (err 3 0) ∧ Below w.heap.size w w' := by
  have ON := Lib.hid (fun (X : World) (h : Below w.heap.size w X) => one_any (c := c) X (hr.below (h.mono hB)) (by have := h.size; omega) hc hm (by omega))
  have hl := hr.len
  have HR := Lib.hid hr
  rw [hone] at ON
  simp only [elR, elT] at ON
  obtain ⟨k1, k2, k3, k4, k5⟩ := one_bd (l := l) (by rw [hone]; exact hz)
  rw [hone] at k1 k2 k3 k4 k5
  simp only [] at k1 k2 k3 k4 k5
  rw [hl] at k5
  subst hz
  subst k1 k2 k5
  obtain ⟨m4, rfl⟩ := Int.eq_ofNat_of_zero_le (show 0 ≤ x4 from by omega)
  have hm4 : m4 ≤ n := by omega
  have HT := Lib.hid hT
  clear hT
  clear hr hone
  go_enter Try.func93, Try.ntmps93
  go_upto_region 2 with (first | (go_at_call 88; go_must (go_fit (ON.out _ ((Below.refl _ _).alloc (Nat.le_refl _) _))); rintro e w1 ⟨rfl, hb1⟩; have t2 := blk1 hb1; have bel := bel1 hb1; have zs := hb1.size; simp only [World.size_alloc] at zs))
  refine wp_abst' (QB w w1.heap.size #[.int .i64 0, .int .i64 0] #[.int .i64 x0, .int .i64 x1, .bool x2, .int .i64 0, .int .i64 (m4 : Int), .int .i64 (n : Int)] #[.int .i64 0, .int .i64 0]) ?_ ?_
  · exact ⟨bk_old (bk_old t2), bk_old (bk_new rfl), bk_new (by simp), (by repeat' (first | (with_reducible exact Below.refl _ _) | (with_reducible assumption) | (with_reducible refine below_drewN ?_ _) | (with_reducible refine Below.drew ?_) | (with_reducible refine Below.alloc ?_ ?_ _) | (with_reducible refine Below.setCell ?_ ?_ _) | go_size)), by omega⟩
  intro w2 hp
  clear t2 bel zs hb1 ON
  generalize w1.heap.size = b4 at *
  clear w1
  have n1 : ¬ b4 = w.heap.size := by have := hp.2.2.2.2; omega
  have n2 : ¬ w.heap.size = b4 := by have := hp.2.2.2.2; omega
  have n3 : ¬ b4 + 1 = w.heap.size := by have := hp.2.2.2.2; omega
  have n4 : ¬ w.heap.size = b4 + 1 := by have := hp.2.2.2.2; omega
  have HP2 := Lib.hid hp
  obtain ⟨te, tx, tr, -, -⟩ := hp
  obtain ⟨s0, s1⟩ := cells2 te
  obtain ⟨g0, g1⟩ := free2' te
  obtain ⟨u0, u1, u2, u3, u4, u5⟩ := cells6 tx
  obtain ⟨v0, v1⟩ := cells2 tr
  clear te tx tr
  have IS := Lib.hid (fun (X : World) => is_any x0 x1 0 (m4 : Int) (n : Int) x2 0 false nu X)
  have IB := Lib.hid (isB_not (x3 := 0) (x4 := (m4 : Int)) (x5 := (n : Int)) HT.out)
  rw [IB.out] at IS
  clear HT IB
  go_upto_region 5 with (first | (go_at_call 89; go_must (go_fit (IS.out _)); rintro e w3 ⟨rfl, hb3⟩))
  refine wp_abst' _ (QB.past HP2.out hb3) ?_
  intro w3 hp
  have HP3 := Lib.hid hp
  clear hb3 s0 s1 g0 g1 u0 u1 u2 u3 u4 u5 v0 v1
  obtain ⟨te, -, -, -, -⟩ := hp
  obtain ⟨s0, s1⟩ := cells2 te
  obtain ⟨g0, g1⟩ := free2' te
  clear te
  go_wp2
  clear s0 s1 g0 g1
  have td := cells2 (set2 (.int .i64 3) (.int .i64 0) HP3.out.1)
  have bel := HP3.out.2.2.2.1
  refine bodyPost_ret (v := err 3 0) (by simp [results, Try.results93, go_sem, *]) rfl ?_
  exact ⟨rfl, (by repeat' (first | (with_reducible exact Below.refl _ _) | (with_reducible assumption) | (with_reducible refine below_drewN ?_ _) | (with_reducible refine Below.drew ?_) | (with_reducible refine Below.alloc ?_ ?_ _) | (with_reducible refine Below.setCell ?_ ?_ _) | go_size))⟩

set_option maxRecDepth 100000 in
set_option maxHeartbeats 2000000 in
theorem prim_decR {A : Option Addr} {n c B : Nat} {l : List UInt8} {x0 x1 x3 x4 x5 r1 r2 : Int} {x2 : Bool} (cb : Nat) (nu : Int) (w : World) (hr : Rd w B A n l) (hB : B ≤ w.heap.size) (hc : n ≤ c) (hm : c ≤ maxLen) (hn : n ≤ 1000000)
    (hone : oneV l = (⟨x0, x1, x2, x3, x4, x5⟩, r1, r2)) {ok : Bool} {o : Obj} (hz : r1 = 0) (hT : (x0 = 0 ∧ x2 = false) ∧ x1 = nu) (hcb : cb < w.heap.size)
    (hdec : ∀ (X : World) (A1 : Option Addr), Below w.heap.size w X → Rd X X.heap.size A1 (n - x4.toNat) ((l.drop x4.toNat).take (n - x4.toNat)) →
      Calls Try.prog 94 #[.slice A1 (n - x4.toNat) (c - x4.toNat), .pointer (some ⟨cb, 0, none⟩)] X fun e X' => e = .returned (.bool ok) ∧ X.grownBy X' (some cb) ∧ X'.heap[cb]? = some o) :
    Calls Try.prog 93 #[.slice A n c, .int .i64 nu, .func (.func 94) #[] #[.pointer (some ⟨cb, 0, none⟩)]] w fun e w' => e = .returned (if ok = true then err 0 0 else err 6 x4) ∧ w.grownBy w' (some cb) ∧ w'.heap[cb]? = some o := by
  have ON := Lib.hid (fun (X : World) (h : Below w.heap.size w X) => one_any (c := c) X (hr.below (h.mono hB)) (by have := h.size; omega) hc hm (by omega))
  have hl := hr.len
  have HR := Lib.hid hr
  rw [hone] at ON
  simp only [elR, elT] at ON
  obtain ⟨k1, k2, k3, k4, k5⟩ := one_bd (l := l) (by rw [hone]; exact hz)
  rw [hone] at k1 k2 k3 k4 k5
  simp only [] at k1 k2 k3 k4 k5
  rw [hl] at k5
  subst hz
  subst k1 k2 k5
  obtain ⟨m4, rfl⟩ := Int.eq_ofNat_of_zero_le (show 0 ≤ x4 from by omega)
  have hm4 : m4 ≤ n := by omega
  simp only [Int.toNat_natCast] at hdec
  have DEC := Lib.hid hdec
  clear hdec
  have HT := Lib.hid hT
  clear hT
  clear hr hone
  go_enter Try.func93, Try.ntmps93
  go_upto_region 2 with (first | (go_at_call 88; go_must (go_fit (ON.out _ ((Below.refl _ _).alloc (Nat.le_refl _) _))); rintro e w1 ⟨rfl, hb1⟩; have t2 := blk1 hb1; have bel := bel1 hb1; have zs := hb1.size; simp only [World.size_alloc] at zs))
  refine wp_abst' (QB w w1.heap.size #[.int .i64 0, .int .i64 0] #[.int .i64 x0, .int .i64 x1, .bool x2, .int .i64 0, .int .i64 (m4 : Int), .int .i64 (n : Int)] #[.int .i64 0, .int .i64 0]) ?_ ?_
  · exact ⟨bk_old (bk_old t2), bk_old (bk_new rfl), bk_new (by simp), (by repeat' (first | (with_reducible exact Below.refl _ _) | (with_reducible assumption) | (with_reducible refine below_drewN ?_ _) | (with_reducible refine Below.drew ?_) | (with_reducible refine Below.alloc ?_ ?_ _) | (with_reducible refine Below.setCell ?_ ?_ _) | go_size)), by omega⟩
  intro w2 hp
  clear t2 bel zs hb1 ON
  generalize w1.heap.size = b4 at *
  clear w1
  have n1 : ¬ b4 = w.heap.size := by have := hp.2.2.2.2; omega
  have n2 : ¬ w.heap.size = b4 := by have := hp.2.2.2.2; omega
  have n3 : ¬ b4 + 1 = w.heap.size := by have := hp.2.2.2.2; omega
  have n4 : ¬ w.heap.size = b4 + 1 := by have := hp.2.2.2.2; omega
  have HP2 := Lib.hid hp
  obtain ⟨te, tx, tr, -, -⟩ := hp
  obtain ⟨s0, s1⟩ := cells2 te
  obtain ⟨g0, g1⟩ := free2' te
  obtain ⟨u0, u1, u2, u3, u4, u5⟩ := cells6 tx
  obtain ⟨v0, v1⟩ := cells2 tr
  clear te tx tr
  have hmc : (n : Int) ≤ (c : Int) := by omega
  have IS := Lib.hid (fun (X : World) => is_any x0 x1 0 (m4 : Int) (n : Int) x2 0 false nu X)
  have IB := Lib.hid (isB_iff (x3 := 0) (x4 := (m4 : Int)) (x5 := (n : Int)) HT.out)
  rw [IB.out] at IS
  clear HT IB
  go_upto_region 6 with (first | (go_at_call 89; go_must (go_fit (IS.out _)); rintro e w3 ⟨rfl, hb3⟩))
  refine wp_abst' _ (QB.past HP2.out hb3) ?_
  intro w3 hp
  have HP3 := Lib.hid hp
  clear hb3 s0 s1 g0 g1 u0 u1 u2 u3 u4 u5 v0 v1
  obtain ⟨te, tx, -, -, -⟩ := hp
  obtain ⟨u0, u1, u2, u3, u4, u5⟩ := cells6 tx
  have hrd := (QB.rd HP3.out HR.out hB).cut (k := m4) (m := n) (cap := c) hm4 (Nat.le_refl _) hc
  simp only [Nat.mul_one] at hrd
  have DD := Lib.hid (DEC.out w3 _ HP3.out.2.2.2.1 hrd)
  clear te tx hrd
  by_cases hcm : c = m4
  · subst hcm
    have h2 : n = c := by omega
    subst h2
    rw [if_pos rfl] at DD
    simp only [Nat.sub_self] at DD
    go_wp2_with fail
    go_must (go_fit DD.out)
    rintro e w4 ⟨rfl, hg4, ho4⟩
    have n5 : w.heap.size ≠ cb := by omega
    have t4 := stay_grown HP3.out.1 hg4 n5
    have x4' := stay_grown HP3.out.2.1 hg4 (by have := HP3.out.2.2.2.2; omega)
    have G := Lib.hid (grown_trans (grown_of_below HP3.out.2.2.2.1 _) hg4)
    have HO := Lib.hid ho4
    have T4 := Lib.hid t4
    have lw4 := Blk_lt t4
    clear u0 u1 u2 u3 u4 u5 DD DEC hg4 ho4
    obtain ⟨s0, s1⟩ := cells2 t4
    obtain ⟨g0, g1⟩ := free2' t4
    obtain ⟨u0, u1, u2, u3, u4, u5⟩ := cells6 x4'
    clear t4 x4'
    cases ok with
    | true =>
      go_wp2
      clear s0 s1 g0 g1 u0 u1 u2 u3 u4 u5
      have td := cells2 (set2 (.int .i64 0) (.int .i64 0) T4.out)
      refine bodyPost_ret (v := err 0 0) (by simp [results, Try.results93, go_sem, *]) rfl ?_
      exact ⟨rfl, grown_setNew (grown_setNew G.out (Nat.le_refl _) _) (Nat.le_refl _) _, set_far (set_far HO.out (Ne.symm n5) _) (Ne.symm n5) _⟩
    | false =>
      go_wp2
      clear s0 s1 g0 g1 u0 u1 u2 u3 u4 u5
      have td := cells2 (set2 (.int .i64 6) (.int .i64 (n : Int)) T4.out)
      refine bodyPost_ret (v := err 6 (n : Int)) (by simp [results, Try.results93, go_sem, *]) rfl ?_
      exact ⟨rfl, grown_setNew (grown_setNew G.out (Nat.le_refl _) _) (Nat.le_refl _) _, set_far (set_far HO.out (Ne.symm n5) _) (Ne.symm n5) _⟩
  · rw [if_neg hcm] at DD
    go_wp2_with fail
    go_must (go_fit DD.out)
    rintro e w4 ⟨rfl, hg4, ho4⟩
    have n5 : w.heap.size ≠ cb := by omega
    have t4 := stay_grown HP3.out.1 hg4 n5
    have x4' := stay_grown HP3.out.2.1 hg4 (by have := HP3.out.2.2.2.2; omega)
    have G := Lib.hid (grown_trans (grown_of_below HP3.out.2.2.2.1 _) hg4)
    have HO := Lib.hid ho4
    have T4 := Lib.hid t4
    have lw4 := Blk_lt t4
    clear u0 u1 u2 u3 u4 u5 DD DEC hg4 ho4
    obtain ⟨s0, s1⟩ := cells2 t4
    obtain ⟨g0, g1⟩ := free2' t4
    obtain ⟨u0, u1, u2, u3, u4, u5⟩ := cells6 x4'
    clear t4 x4'
    cases ok with
    | true =>
      go_wp2
      clear s0 s1 g0 g1 u0 u1 u2 u3 u4 u5
      have td := cells2 (set2 (.int .i64 0) (.int .i64 0) T4.out)
      refine bodyPost_ret (v := err 0 0) (by simp [results, Try.results93, go_sem, *]) rfl ?_
      exact ⟨rfl, grown_setNew (grown_setNew G.out (Nat.le_refl _) _) (Nat.le_refl _) _, set_far (set_far HO.out (Ne.symm n5) _) (Ne.symm n5) _⟩
    | false =>
      go_wp2
      clear s0 s1 g0 g1 u0 u1 u2 u3 u4 u5
      have td := cells2 (set2 (.int .i64 6) (.int .i64 (m4 : Int)) T4.out)
      refine bodyPost_ret (v := err 6 (m4 : Int)) (by simp [results, Try.results93, go_sem, *]) rfl ?_
      exact ⟨rfl, grown_setNew (grown_setNew G.out (Nat.le_refl _) _) (Nat.le_refl _) _, set_far (set_far HO.out (Ne.symm n5) _) (Ne.symm n5) _⟩

set_option maxRecDepth 100000 in
set_option maxHeartbeats 2000000 in
theorem prim_decD {A : Option Addr} {n c B : Nat} {l : List UInt8} {x0 x1 x3 x4 x5 r1 r2 : Int} {x2 : Bool} (cb : Nat) (nu : Int) (w : World) (hr : Rd w B A n l) (hB : B ≤ w.heap.size) (hc : n ≤ c) (hm : c ≤ maxLen) (hn : n ≤ 1000000)
    (hone : oneV l = (⟨x0, x1, x2, x3, x4, x5⟩, r1, r2)) {ok : Bool} {o : Obj} (hz : r1 = 0) (hT : (x0 = 0 ∧ x2 = false) ∧ x1 = nu) (hcb : cb < w.heap.size)
    (hdec : ∀ (X : World) (A1 : Option Addr), Below w.heap.size w X → Rd X X.heap.size A1 (n - x4.toNat) ((l.drop x4.toNat).take (n - x4.toNat)) →
      Calls Try.prog 96 #[.slice A1 (n - x4.toNat) (c - x4.toNat), .pointer (some ⟨cb, 0, none⟩)] X fun e X' => e = .returned (.bool ok) ∧ X.grownBy X' (some cb) ∧ X'.heap[cb]? = some o) :
    Calls Try.prog 93 #[.slice A n c, .int .i64 nu, .func (.func 96) #[] #[.pointer (some ⟨cb, 0, none⟩)]] w fun e w' => e = .returned (if ok = true then err 0 0 else err 6 x4) ∧ w.grownBy w' (some cb) ∧ w'.heap[cb]? = some o := by
  have ON := Lib.hid (fun (X : World) (h : Below w.heap.size w X) => one_any (c := c) X (hr.below (h.mono hB)) (by have := h.size; omega) hc hm (by omega))
  have hl := hr.len
  have HR := Lib.hid hr
  rw [hone] at ON
  simp only [elR, elT] at ON
  obtain ⟨k1, k2, k3, k4, k5⟩ := one_bd (l := l) (by rw [hone]; exact hz)
  rw [hone] at k1 k2 k3 k4 k5
  simp only [] at k1 k2 k3 k4 k5
  rw [hl] at k5
  subst hz
  subst k1 k2 k5
  obtain ⟨m4, rfl⟩ := Int.eq_ofNat_of_zero_le (show 0 ≤ x4 from by omega)
  have hm4 : m4 ≤ n := by omega
  simp only [Int.toNat_natCast] at hdec
  have DEC := Lib.hid hdec
  clear hdec
  have HT := Lib.hid hT
  clear hT
  clear hr hone
  go_enter Try.func93, Try.ntmps93
  go_upto_region 2 with (first | (go_at_call 88; go_must (go_fit (ON.out _ ((Below.refl _ _).alloc (Nat.le_refl _) _))); rintro e w1 ⟨rfl, hb1⟩; have t2 := blk1 hb1; have bel := bel1 hb1; have zs := hb1.size; simp only [World.size_alloc] at zs))
  refine wp_abst' (QB w w1.heap.size #[.int .i64 0, .int .i64 0] #[.int .i64 x0, .int .i64 x1, .bool x2, .int .i64 0, .int .i64 (m4 : Int), .int .i64 (n : Int)] #[.int .i64 0, .int .i64 0]) ?_ ?_
  · exact ⟨bk_old (bk_old t2), bk_old (bk_new rfl), bk_new (by simp), (by repeat' (first | (with_reducible exact Below.refl _ _) | (with_reducible assumption) | (with_reducible refine below_drewN ?_ _) | (with_reducible refine Below.drew ?_) | (with_reducible refine Below.alloc ?_ ?_ _) | (with_reducible refine Below.setCell ?_ ?_ _) | go_size)), by omega⟩
  intro w2 hp
  clear t2 bel zs hb1 ON
  generalize w1.heap.size = b4 at *
  clear w1
  have n1 : ¬ b4 = w.heap.size := by have := hp.2.2.2.2; omega
  have n2 : ¬ w.heap.size = b4 := by have := hp.2.2.2.2; omega
  have n3 : ¬ b4 + 1 = w.heap.size := by have := hp.2.2.2.2; omega
  have n4 : ¬ w.heap.size = b4 + 1 := by have := hp.2.2.2.2; omega
  have HP2 := Lib.hid hp
  obtain ⟨te, tx, tr, -, -⟩ := hp
  obtain ⟨s0, s1⟩ := cells2 te
  obtain ⟨g0, g1⟩ := free2' te
  obtain ⟨u0, u1, u2, u3, u4, u5⟩ := cells6 tx
  obtain ⟨v0, v1⟩ := cells2 tr
  clear te tx tr
  have hmc : (n : Int) ≤ (c : Int) := by omega
  have IS := Lib.hid (fun (X : World) => is_any x0 x1 0 (m4 : Int) (n : Int) x2 0 false nu X)
  have IB := Lib.hid (isB_iff (x3 := 0) (x4 := (m4 : Int)) (x5 := (n : Int)) HT.out)
  rw [IB.out] at IS
  clear HT IB
  go_upto_region 6 with (first | (go_at_call 89; go_must (go_fit (IS.out _)); rintro e w3 ⟨rfl, hb3⟩))
  refine wp_abst' _ (QB.past HP2.out hb3) ?_
  intro w3 hp
  have HP3 := Lib.hid hp
  clear hb3 s0 s1 g0 g1 u0 u1 u2 u3 u4 u5 v0 v1
  obtain ⟨te, tx, -, -, -⟩ := hp
  obtain ⟨u0, u1, u2, u3, u4, u5⟩ := cells6 tx
  have hrd := (QB.rd HP3.out HR.out hB).cut (k := m4) (m := n) (cap := c) hm4 (Nat.le_refl _) hc
  simp only [Nat.mul_one] at hrd
  have DD := Lib.hid (DEC.out w3 _ HP3.out.2.2.2.1 hrd)
  clear te tx hrd
  by_cases hcm : c = m4
  · subst hcm
    have h2 : n = c := by omega
    subst h2
    rw [if_pos rfl] at DD
    simp only [Nat.sub_self] at DD
    go_wp2_with fail
    go_must (go_fit DD.out)
    rintro e w4 ⟨rfl, hg4, ho4⟩
    have n5 : w.heap.size ≠ cb := by omega
    have t4 := stay_grown HP3.out.1 hg4 n5
    have x4' := stay_grown HP3.out.2.1 hg4 (by have := HP3.out.2.2.2.2; omega)
    have G := Lib.hid (grown_trans (grown_of_below HP3.out.2.2.2.1 _) hg4)
    have HO := Lib.hid ho4
    have T4 := Lib.hid t4
    have lw4 := Blk_lt t4
    clear u0 u1 u2 u3 u4 u5 DD DEC hg4 ho4
    obtain ⟨s0, s1⟩ := cells2 t4
    obtain ⟨g0, g1⟩ := free2' t4
    obtain ⟨u0, u1, u2, u3, u4, u5⟩ := cells6 x4'
    clear t4 x4'
    cases ok with
    | true =>
      go_wp2
      clear s0 s1 g0 g1 u0 u1 u2 u3 u4 u5
      have td := cells2 (set2 (.int .i64 0) (.int .i64 0) T4.out)
      refine bodyPost_ret (v := err 0 0) (by simp [results, Try.results93, go_sem, *]) rfl ?_
      exact ⟨rfl, grown_setNew (grown_setNew G.out (Nat.le_refl _) _) (Nat.le_refl _) _, set_far (set_far HO.out (Ne.symm n5) _) (Ne.symm n5) _⟩
    | false =>
      go_wp2
      clear s0 s1 g0 g1 u0 u1 u2 u3 u4 u5
      have td := cells2 (set2 (.int .i64 6) (.int .i64 (n : Int)) T4.out)
      refine bodyPost_ret (v := err 6 (n : Int)) (by simp [results, Try.results93, go_sem, *]) rfl ?_
      exact ⟨rfl, grown_setNew (grown_setNew G.out (Nat.le_refl _) _) (Nat.le_refl _) _, set_far (set_far HO.out (Ne.symm n5) _) (Ne.symm n5) _⟩
  · rw [if_neg hcm] at DD
    go_wp2_with fail
    go_must (go_fit DD.out)
    rintro e w4 ⟨rfl, hg4, ho4⟩
    have n5 : w.heap.size ≠ cb := by omega
    have t4 := stay_grown HP3.out.1 hg4 n5
    have x4' := stay_grown HP3.out.2.1 hg4 (by have := HP3.out.2.2.2.2; omega)
    have G := Lib.hid (grown_trans (grown_of_below HP3.out.2.2.2.1 _) hg4)
    have HO := Lib.hid ho4
    have T4 := Lib.hid t4
    have lw4 := Blk_lt t4
    clear u0 u1 u2 u3 u4 u5 DD DEC hg4 ho4
    obtain ⟨s0, s1⟩ := cells2 t4
    obtain ⟨g0, g1⟩ := free2' t4
    obtain ⟨u0, u1, u2, u3, u4, u5⟩ := cells6 x4'
    clear t4 x4'
    cases ok with
    | true =>
      go_wp2
      clear s0 s1 g0 g1 u0 u1 u2 u3 u4 u5
      have td := cells2 (set2 (.int .i64 0) (.int .i64 0) T4.out)
      refine bodyPost_ret (v := err 0 0) (by simp [results, Try.results93, go_sem, *]) rfl ?_
      exact ⟨rfl, grown_setNew (grown_setNew G.out (Nat.le_refl _) _) (Nat.le_refl _) _, set_far (set_far HO.out (Ne.symm n5) _) (Ne.symm n5) _⟩
    | false =>
      go_wp2
      clear s0 s1 g0 g1 u0 u1 u2 u3 u4 u5
      have td := cells2 (set2 (.int .i64 6) (.int .i64 (m4 : Int)) T4.out)
      refine bodyPost_ret (v := err 6 (m4 : Int)) (by simp [results, Try.results93, go_sem, *]) rfl ?_
      exact ⟨rfl, grown_setNew (grown_setNew G.out (Nat.le_refl _) _) (Nat.le_refl _) _, set_far (set_far HO.out (Ne.symm n5) _) (Ne.symm n5) _⟩
end Go.Proofs.Ytnpmgofkfdpbjaa.Ent
/- Walks: Parse of the package entry: a reason out of bytes. -/
namespace Go.Proofs.Ytnpmgofkfdpbjaa.Ent
open Go.RowKit Kit Tlv

/-- do contents octets hold a reason? -/
def reaB (l : List UInt8) : Bool := Int4.intOk l && validR (Int4.intV l)
theorem validR_bd {r : Int} (h : validR r = true) : 0 ≤ r ∧ r ≤ 10 ∧ r ≠ 7 := by
  unfold validR at h
  rw [decide_eq_true_eq] at h
  omega
/-- contents octets that hold a reason -/
theorem rea_of {k : List UInt8} (h : reaB k = true) : validR (Int4.intV k) = true ∧ reasL (Int4.intV k) = encL 0 false 10 k := by
  unfold reaB at h
  rw [Bool.and_eq_true] at h
  obtain ⟨h1, h2⟩ := h
  refine ⟨h2, ?_⟩
  have h3 : Int4.intV k = Int4.sv k := by unfold Int4.intV; rw [if_pos h1]
  unfold Int4.intOk at h1
  rw [Bool.and_eq_true] at h1
  have hb := validR_bd h2
  rw [← (reas_enc h2).1]
  congr 1
  exact (Int4.intL_of (by omega) (by omega) h1.1 h3.symm).symm
theorem rea_back {r : Int} (h : validR r = true) : reaB (Int4.intL r) = true ∧ Int4.intV (Int4.intL r) = r := by
  have hb := validR_bd h
  obtain ⟨v1, v2, v3⟩ := Int4.intL_ok (n := r) (by omega) (by omega)
  have ho : Int4.intOk (Int4.intL r) = true := by unfold Int4.intOk; simp [v1, v3]
  have hv : Int4.intV (Int4.intL r) = r := by unfold Int4.intV; rw [if_pos ho, v2]
  refine ⟨?_, hv⟩
  unfold reaB
  rw [hv, h, ho]
  rfl
theorem reas_inj {r r' : Int} (h : validR r = true) (h' : validR r' = true) (e : reasL r = reasL r') : r = r' := by
  rw [← (reas_enc h).1, ← (reas_enc h').1] at e
  have := (Val.enc_inj (reas_enc h').2.1 (reas_enc h).2.1 e).2.2.2
  have h1 := (rea_back h).2
  rw [← this, (rea_back h').2] at h1
  exact h1.symm

set_option maxRecDepth 100000 in
set_option maxHeartbeats 2000000 in
theorem rea1_any {A : Option Addr} {n c B cb : Nat} {l : List UInt8} {v0 : Int} (w : World) (hr : Rd w B A n l) (hB : B ≤ w.heap.size) (hc : n ≤ c) (hcb : w.heap[cb]? = some (.cells #[.int .i64 v0] 3 (0, 0))) :
    Calls Try.prog 94 #[.slice A n c, .pointer (some ⟨cb, 0, none⟩)] w fun e w' => e = .returned (.bool (reaB l)) ∧ w.grownBy w' (some cb) ∧ w'.heap[cb]? = some (.cells #[.int .i64 (if reaB l = true then Int4.intV l else v0)] 3 (0, 0)) := by
  have I := Lib.hid (Int4.int_any (c := c) w hr hB hc)
  have F := Lib.hid (show reaB l = (Int4.intOk l && validR (Int4.intV l)) from rfl)
  have V := Lib.hid (fun X => validR_any (Int4.intV l) X)
  have HV := Lib.hid (fun h => validR_bd (r := Int4.intV l) h)
  have HN := Lib.hid (show validR (Int4.intV l) = false → Int4.intV l < 0 ∨ 10 < Int4.intV l ∨ (0 ≤ Int4.intV l ∧ Int4.intV l ≤ 10) from fun _ => by omega)
  have HI := Lib.hid (show validR (Int4.intV l) = false ∨ (0 ≤ Int4.intV l ∧ Int4.intV l ≤ 10) from by cases h : validR (Int4.intV l) with | false => exact .inl rfl | true => exact .inr ⟨(validR_bd h).1, (validR_bd h).2.1⟩)
  have HC := Lib.hid hcb
  generalize Int4.intV l = v at *
  clear hr hcb
  cases ho : Int4.intOk l with
  | false =>
    have R := Lib.hid (show reaB l = false from by rw [F.out, ho]; rfl)
    rw [ho] at I
    rw [R.out]
    clear ho F
    go_enter Try.func94, Try.ntmps94
    go_wp2_with fail
    go_must (go_fit I.out)
    rintro e w' ⟨rfl, rfl⟩
    go_wp2
    go_ret
    exact ⟨rfl, World.grownBy.refl _ _, HC.out⟩
  | true =>
    rw [ho] at I
    cases hv : validR v with
    | false =>
      have R := Lib.hid (show reaB l = false from by rw [F.out, ho, hv]; rfl)
      rw [R.out]
      rw [hv] at V
      have hcase := HN.out hv
      clear ho F hv HV HN HI
      rcases hcase with h1 | h1 | ⟨h1, h2⟩
      · go_enter Try.func94, Try.ntmps94
        go_wp2_with fail
        go_must (go_fit I.out)
        rintro e w' ⟨rfl, rfl⟩
        go_wp2
        go_ret
        exact ⟨rfl, World.grownBy.refl _ _, HC.out⟩
      · have h0 : 0 ≤ v := by omega
        go_enter Try.func94, Try.ntmps94
        go_wp2_with fail
        go_must (go_fit I.out)
        rintro e w' ⟨rfl, rfl⟩
        go_wp2
        go_ret
        exact ⟨rfl, World.grownBy.refl _ _, HC.out⟩
      · go_enter Try.func94, Try.ntmps94
        go_wp2_with fail
        go_must (go_fit I.out)
        rintro e w' ⟨rfl, rfl⟩
        go_wp2_with fail
        go_must (go_fit (V.out _))
        rintro e w1 ⟨rfl, hb1⟩
        go_wp2
        go_ret
        exact ⟨rfl, grown_of_below hb1 _, stayK HC.out hb1⟩
    | true =>
      have R := Lib.hid (show reaB l = true from by rw [F.out, ho, hv]; rfl)
      rw [R.out]
      rw [hv] at V
      obtain ⟨h1, h2, -⟩ := HV.out hv
      clear ho F hv HV HN HI
      go_enter Try.func94, Try.ntmps94
      go_wp2_with fail
      go_must (go_fit I.out)
      rintro e w' ⟨rfl, rfl⟩
      go_wp2_with fail
      go_must (go_fit (V.out _))
      rintro e w1 ⟨rfl, hb1⟩
      have t1 := stayK HC.out hb1
      have ca := cell_of_one t1
      have fa := free_of_one t1
      have G := Lib.hid (grown_of_below hb1 (some cb))
      have T1 := Lib.hid t1
      clear t1 hb1
      go_wp2
      go_ret
      exact ⟨rfl, grown_set G.out 0 _, one_setCell T1.out⟩

/-- what Parse of entry returns -/
abbrev entR (r code off : Int) : Value := .tuple #[.int .i64 r, err code off]

set_option maxRecDepth 100000 in
set_option maxHeartbeats 2000000 in
theorem entparse_raw {A : Option Addr} {n c : Nat} (w : World) (k o v : Int)
    (hp : Calls Try.prog 93 #[.slice A n c, .int .i64 10, .func (.func 94) #[] #[.pointer (some ⟨w.heap.size + 1, 0, none⟩)]] ((w.alloc (.cells #[.int .i64 0, .int .i64 0] 36)).alloc (.cells #[.int .i64 0] 3))
      fun e X => e = .returned (err k o) ∧ ((w.alloc (.cells #[.int .i64 0, .int .i64 0] 36)).alloc (.cells #[.int .i64 0] 3)).grownBy X (some (w.heap.size + 1)) ∧ X.heap[w.heap.size + 1]? = some (.cells #[.int .i64 v] 3 (0, 0))) :
    Calls Try.prog 33 #[.slice A n c] w fun e w' => e = .returned (entR v k o) ∧ Below w.heap.size w w' := by
  have PR := Lib.hid hp
  clear hp
  go_enter Try.func33, Try.ntmps33
  go_wp2_with fail
  go_must (go_fit PR.out)
  rintro e w1 ⟨rfl, hg, hv⟩
  have t1 := stay_grown (bk_old (bk_new (o := .cells #[.int .i64 0, .int .i64 0] 36) rfl)) hg (by omega)
  have bel : Below w.heap.size w w1 := (show Below w.heap.size w _ from (by repeat' (first | (with_reducible exact Below.refl _ _) | (with_reducible assumption) | (with_reducible refine below_drewN ?_ _) | (with_reducible refine Below.drew ?_) | (with_reducible refine Below.alloc ?_ ?_ _) | (with_reducible refine Below.setCell ?_ ?_ _) | go_size))).grown hg (by simp; omega) (fun j hj => by injection hj with hj; omega)
  have zs := hg.size
  simp only [World.size_alloc] at zs
  have t2 := bk_old (o' := .cells #[.int .i64 k, .int .i64 o] 36) t1
  have t3 := bk_old (o' := .cells #[.int .i64 k, .int .i64 o] 36) hv
  have t4 : (w1.alloc (.cells #[.int .i64 k, .int .i64 o] 36)).heap[w1.heap.size]? = _ := bk_new rfl
  have bel2 := bel.alloc bel.size (.cells #[.int .i64 k, .int .i64 o] 36)
  have n1 : ¬ w1.heap.size = w.heap.size := by omega
  have n2 : ¬ w.heap.size = w1.heap.size := by omega
  clear hg hv t1 bel zs PR
  go_upto_region 3 with fail
  generalize w1.heap.size = b1 at *
  generalize w1.alloc (.cells #[.int .i64 k, .int .i64 o] 36) = w2 at *
  clear w1
  have T2 := Lib.hid t2
  obtain ⟨s0, s1⟩ := cells2 t2
  obtain ⟨g0, g1⟩ := free2' t2
  have ca := cell_of_one t3
  obtain ⟨v0, v1⟩ := cells2 t4
  clear t2 t3 t4
  go_region_held3 (fun w' => w'.cell? ⟨w.heap.size + 1, 0, none⟩ = some (.int .i64 v) ∧ w'.cell? ⟨b1, 0, none⟩ = some (.int .i64 k) ∧ w'.cell? ⟨b1, 1, none⟩ = some (.int .i64 o)) (go_keep) (fail)
  rename_i hheld
  clear hheld
  go_wp2
  clear s0 s1 g0 g1 ca v0 v1
  have td := cells2 (set2 (.int .i64 k) (.int .i64 o) T2.out)
  refine bodyPost_ret (v := entR v k o) (by simp [results, Try.results33, go_sem, *]) rfl ?_
  exact ⟨rfl, (by repeat' (first | (with_reducible exact Below.refl _ _) | (with_reducible assumption) | (with_reducible refine below_drewN ?_ _) | (with_reducible refine Below.drew ?_) | (with_reducible refine Below.alloc ?_ ?_ _) | (with_reducible refine Below.setCell ?_ ?_ _) | go_size))⟩

/-- Parse of a reason's encoding; of other bytes -/
def EntOk (w : World) (args : Array Value) (l : List UInt8) : Prop :=
  ∃ r, validR r = true ∧ l = reasL r ∧ Calls Try.prog 33 args w fun e w' => e = .returned (entR r 0 0) ∧ Below w.heap.size w w'
def EntNo (w : World) (args : Array Value) (l : List UInt8) : Prop :=
  (∀ r, validR r = true → l ≠ reasL r) ∧ ∃ code off, 0 < code ∧ 0 ≤ off ∧ off ≤ (l.length : Int) ∧ Calls Try.prog 33 args w fun e w' => e = .returned (entR 0 code off) ∧ Below w.heap.size w w'

theorem entparse_any {A : Option Addr} {n c B : Nat} {l : List UInt8} (w : World) (hr : Rd w B A n l) (hB : B ≤ w.heap.size) (hc : n ≤ c) (hm : c ≤ maxLen) (hn : n ≤ 100000) :
    EntOk w #[.slice A n c] l ∨ EntNo w #[.slice A n c] l := by
  have hl := hr.len
  have hrX : Rd ((w.alloc (.cells #[.int .i64 0, .int .i64 0] 36)).alloc (.cells #[.int .i64 0] 3)) B A n l := (hr.alloc hB _).alloc (by simp; omega) _
  have hBX : B ≤ ((w.alloc (.cells #[.int .i64 0, .int .i64 0] 36)).alloc (.cells #[.int .i64 0] 3)).heap.size := by simp; omega
  have hcb : ((w.alloc (.cells #[.int .i64 0, .int .i64 0] 36)).alloc (.cells #[.int .i64 0] 3)).heap[w.heap.size + 1]? = some (.cells #[.int .i64 0] 3 (0, 0)) := bk_new (by simp)
  have hone : ∃ x0 x1 x2 x3 x4 x5 r1 r2, oneV l = (⟨x0, x1, x2, x3, x4, x5⟩, r1, r2) := ⟨_, _, _, _, _, _, _, _, rfl⟩
  obtain ⟨x0, x1, x2, x3, x4, x5, r1, r2, hone⟩ := hone
  by_cases hz : r1 = 0
  · obtain ⟨k1, k2, k3⟩ := Val.one_con (l := l) (by rw [hone]; exact hz)
    obtain ⟨d1, d2, d3, d4, d5⟩ := one_bd (l := l) (by rw [hone]; exact hz)
    generalize (nx l).con = k at *
    rw [hone] at k1 k2 k3 d1 d2 d3 d4 d5
    simp only [] at k1 k2 k3 d1 d2 d3 d4 d5
    rw [hl] at k1
    by_cases hT : (x0 = 0 ∧ x2 = false) ∧ x1 = 10
    · have hp := prim_decR (w.heap.size + 1) 10 _ hrX hBX hc hm (by omega) hone (ok := reaB k) (o := .cells #[.int .i64 (if reaB k = true then Int4.intV k else 0)] 3 (0, 0)) hz hT (by simp) (fun X A1 hX h => by
        rw [k1] at h
        exact rea1_any X h (Nat.le_refl _) (by omega) ((hX.block _ (Blk_lt hcb)).trans hcb))
      obtain ⟨⟨e0, e2⟩, e1⟩ := hT
      rw [e0, e1, e2] at k2
      rw [e0, e1] at k3
      cases hb : reaB k with
      | true =>
        rw [hb] at hp
        obtain ⟨f1, f2⟩ := rea_of hb
        exact .inl ⟨_, f1, k2.symm.trans f2.symm, entparse_raw w 0 0 _ hp⟩
      | false =>
        rw [hb] at hp
        refine .inr ⟨fun r hv e => ?_, 6, x4, by omega, by omega, by omega, entparse_raw w 6 x4 _ hp⟩
        rw [← k2, ← (reas_enc hv).1] at e
        have hk := (Val.enc_inj (reas_enc hv).2.1 k3 e).2.2.2
        rw [← hk, (rea_back hv).1] at hb
        cases hb
    · have hp := prim_tag 94 (w.heap.size + 1) 10 _ hrX hBX hc hm (by omega) hone hz hT
      refine .inr ⟨fun r hv e => ?_, 3, 0, by omega, by omega, by omega, entparse_raw w 3 0 0 (hp.mono fun e X h => ⟨h.1, grown_of_below h.2 _, (h.2.block _ (Blk_lt hcb)).trans hcb⟩)⟩
      rw [← k2, ← (reas_enc hv).1] at e
      obtain ⟨i1, i2, i3, _⟩ := Val.enc_inj (reas_enc hv).2.1 k3 e
      exact hT ⟨⟨i1.symm, i3.symm⟩, i2.symm⟩
  · obtain ⟨d1, d2, d3, d4⟩ := one_err (l := l) (by omega) (by rw [hone]; exact hz)
    rw [hone] at d2 d3 d4
    have hp := prim_err 94 (w.heap.size + 1) 10 _ hrX hBX hc hm (by omega) hone hz
    refine .inr ⟨fun r hv e => ?_, r1, r2, d2, d3, d4, entparse_raw w r1 r2 0 (hp.mono fun e X h => ⟨h.1, grown_of_below h.2 _, (h.2.block _ (Blk_lt hcb)).trans hcb⟩)⟩
    rw [e, ← (reas_enc hv).1, one_enc (reas_enc hv).2.1] at hone
    injection hone with _ h2
    injection h2 with h2
    exact hz h2.symm
end Go.Proofs.Ytnpmgofkfdpbjaa.Ent
/- Walks: Marshal and Parse of the reference's reasons; the law EntryReasons. -/
namespace Go.Proofs.Ytnpmgofkfdpbjaa.Ent
open Go.RowKit Kit Tlv

set_option maxHeartbeats 2000000 in
theorem refmarshalR_any (r : Int) (w : World) : Calls Try.prog 32 #[.int .i64 r] w (MarP w (reasL r) (reasC r)) := by
  have V := Lib.hid (fun w => refvalidR_any r w)
  cases hv : validR r with
  | false =>
    have F := Lib.hid (show reasL r = [] ∧ reasC r = 8 from by unfold reasL reasC; simp [hv])
    rw [hv] at V
    clear hv
    go_enter Try.func32, Try.ntmps32
    go_wp2_with fail
    go_must (go_fit (V.out _))
    rintro e w' ⟨rfl, rfl⟩
    go_wp2
    go_ret2
    unfold MarP
    rw [F.out.1, F.out.2]
    exact ⟨none, 0, rfl, Own.none_ _ _, Below.refl _ _⟩
  | true =>
    have hb := validR_bd hv
    obtain ⟨h0, h1, -⟩ := hb
    have F := Lib.hid (show reasL r = [10, 1, ofI r] ∧ reasC r = 0 from by unfold reasL reasC; simp [hv])
    have wr : IntKind.u8.wrap r = r := IntWalk.u8_in _ (by omega)
    have wr2 : r % 256 = r := by omega
    rw [hv] at V
    clear hv
    have OW := Lib.hid (Own.lit (base := w.heap.size) w [10, 1, ofI r] (Nat.le_refl _) (show (3 : Nat) ≤ maxLen by unfold maxLen; omega))
    have VS := Lib.hid (show vs [10, 1, ofI r] = [.int .u8 10, .int .u8 1, .int .u8 r] from by simp [vs, ofI_toNat h0 (show r ≤ 255 by omega)])
    rw [VS.out] at OW
    go_enter Try.func32, Try.ntmps32
    go_wp2_with fail
    go_must (go_fit (V.out _))
    rintro e w' ⟨rfl, rfl⟩
    go_wp2
    go_ret2
    unfold MarP
    rw [F.out.1, F.out.2]
    exact ⟨_, _, rfl, OW.out, (by repeat' (first | (with_reducible exact Below.refl _ _) | (with_reducible assumption) | (with_reducible refine below_drewN ?_ _) | (with_reducible refine Below.drew ?_) | (with_reducible refine Below.alloc ?_ ?_ _) | (with_reducible refine Below.setCell ?_ ?_ _) | go_size))⟩

/-- what the reference's Parse returns -/
def RefR (w : World) (l : List UInt8) (e : Ending) (w' : World) : Prop :=
  ∃ r b, e = .returned (.tuple #[.int .i64 r, .bool b]) ∧ (b = true → validR r = true ∧ l = reasL r) ∧ (b = false → r = 0 ∧ ∀ s, validR s = true → l ≠ reasL s) ∧ Below w.heap.size w w'
/-- where its loop stands -/
def RefL (w : World) (l : List UInt8) (i : Value) (wr : World) : Prop :=
  ∃ k : Nat, k ≤ 11 ∧ i = .int .i64 (k : Int) ∧ (∀ s : Int, 0 ≤ s → s < (k : Int) → validR s = true → l ≠ reasL s) ∧ Below w.heap.size w wr

theorem refl_step {l : List UInt8} {k : Nat} (h : ∀ s : Int, 0 ≤ s → s < (k : Int) → validR s = true → l ≠ reasL s) (hk : validR (k : Int) = true → l ≠ reasL (k : Int)) :
    ∀ s : Int, 0 ≤ s → s < ((k + 1 : Nat) : Int) → validR s = true → l ≠ reasL s := by
  intro s h0 h1 hs
  rcases (by omega : s < (k : Int) ∨ s = (k : Int)) with h2 | h2
  · exact h s h0 h2 hs
  · subst h2; exact hk hs

set_option maxRecDepth 100000 in
set_option maxHeartbeats 2000000 in
theorem refparseR_any {A : Option Addr} {n c B : Nat} {l : List UInt8} (w : World) (hr : Rd w B A n l) (hB : B ≤ w.heap.size) :
    Calls Try.prog 34 #[.slice A n c] w (RefR w l) := by
  have HR := Lib.hid hr
  clear hr
  go_enter Try.func34, Try.ntmps34
  go_wp2
  go_loopw [4] (fun i wr => RefL w l i wr) (fun i _ => 11 - (intOf i).toNat)
  case atStart => exact ⟨0, by omega, rfl, fun s h0 h1 => by omega, (by repeat' (first | (with_reducible exact Below.refl _ _) | (with_reducible assumption) | (with_reducible refine below_drewN ?_ _) | (with_reducible refine Below.drew ?_) | (with_reducible refine Below.alloc ?_ ?_ _) | (with_reducible refine Below.setCell ?_ ?_ _) | go_size))⟩
  case round =>
    obtain ⟨k, hk, rfl, hno, hb⟩ := hrel
    have HNO := Lib.hid hno
    have HB := Lib.hid hb
    clear hno hb
    by_cases hlt : k < 11
    · have M := Lib.hid (fun X => refmarshalR_any (k : Int) X)
      cases hv : validR (k : Int) with
      | false =>
        have F := Lib.hid (show reasL (k : Int) = [] ∧ reasC (k : Int) = 8 from by unfold reasL reasC; simp [hv])
        rw [F.out.1, F.out.2] at M
        have HV := Lib.hid hv
        clear hv
        go_wp2_with fail
        go_must (go_fit (M.out _))
        rintro e w1 ⟨A1, c1, rfl, o1, hb1⟩
        have B1 := Lib.hid (two_belowK HB.out hb1 HB.out.size)
        clear o1 hb1
        go_wp2
        go_roundw
        case rel => exact ⟨k + 1, by omega, by go_num, refl_step HNO.out (fun h => absurd h (by rw [HV.out]; decide)), B1.out⟩
        case measure => simp [intOf]; omega
      | true =>
        have F := Lib.hid (show reasC (k : Int) = 0 from by unfold reasC; rw [if_pos hv])
        rw [F.out] at M
        have HV := Lib.hid hv
        clear hv
        go_wp2_with fail
        go_must (go_fit (M.out _))
        rintro e w1 ⟨A1, c1, rfl, o1, hb1⟩
        have B1 := Lib.hid (two_belowK HB.out hb1 HB.out.size)
        have BY := Lib.hid (Cur.bytes_any A1 A (reasL (k : Int)).length c1 n c _ _ w1 o1.rd (HR.out.below (B1.out.mono hB)))
        clear o1 hb1
        by_cases he : l = reasL (k : Int)
        · have HE := Lib.hid he
          rw [show Cur.eqB (reasL (k : Int)) l = true from by rw [he]; exact Cur.eqB_self _] at BY
          clear he
          go_wp2_with fail
          go_must (go_fit BY.out)
          rintro e w2 ⟨rfl, rfl⟩
          go_wp2
          go_ret2
          exact ⟨_, _, rfl, fun _ => ⟨HV.out, HE.out⟩, (fun h => absurd h (by decide)), B1.out⟩
        · have HE := Lib.hid he
          rw [show Cur.eqB (reasL (k : Int)) l = false from by unfold Cur.eqB; simp; exact fun h => he h.symm] at BY
          clear he
          go_wp2_with fail
          go_must (go_fit BY.out)
          rintro e w2 ⟨rfl, rfl⟩
          go_wp2
          go_roundw
          case rel => exact ⟨k + 1, by omega, by go_num, refl_step HNO.out (fun _ => HE.out), B1.out⟩
          case measure => simp [intOf]; omega
    · obtain rfl : k = 11 := by omega
      go_wp2
      go_ret2
      exact ⟨_, _, rfl, (fun h => absurd h (by decide)), fun _ => ⟨rfl, fun s hs => HNO.out s (validR_bd hs).1 (by have := (validR_bd hs).2.1; omega) hs⟩, HB.out⟩
end Go.Proofs.Ytnpmgofkfdpbjaa.Ent
