/- Joined texts: ClkE, ClkF, ClkG, ClkH. -/
import Derived.Deep.CutRange
import Derived.Test.YtnpmgofkfdpbjaaKD
import Derived.Test.YtnpmgofkfdpbjaaKC
import Derived.Test.YtnpmgofkfdpbjaaKA
set_option linter.unusedSimpArgs false
set_option linter.unusedVariables false
/- Walks: the clock's decode: the closure that reads two digits. -/
namespace Go.Proofs.Ytnpmgofkfdpbjaa.Clk
open Go.RowKit Kit

set_option maxHeartbeats 1000000 in
theorem next_any {A : Option Addr} {n c p ba bc B : Nat} {l : List UInt8} (w : World) (hr : Rd w B A n l) (hba : w.heap[ba]? = some (.cells #[.int .i64 (p : Int)] 3 (0, 0))) (hbc : w.heap[bc]? = some (.cells #[.slice A n c] 29 (0, 0)))
    (hne : ba ≠ bc) (hA : ∀ ad, A = some ad → ad.block ≠ ba) (hp : p + 1 < n) (hn : n ≤ 100000) (h0 : 48 ≤ bt l p ∧ bt l p ≤ 57) (h1 : 48 ≤ bt l (p + 1) ∧ bt l (p + 1) ≤ 57) :
    Calls Try.prog 161 #[.pointer (some ⟨ba, 0, none⟩), .pointer (some ⟨bc, 0, none⟩)] w fun e w' => e = .returned (.int .i64 (pr l p)) ∧ ∃ k, w' = (w.setCell ⟨ba, 0, none⟩ (.int .i64 ((p + 2 : Nat) : Int))).drewN k := by
  have ca := cell_of_one hba
  have fa := free_of_one hba
  have cc := cell_of_one hbc
  obtain ⟨ad, rfl, _, c0⟩ := hr.at_ (k := p) (by omega)
  obtain ⟨ad', e', _, c1⟩ := hr.at_ (k := p + 1) hp
  injection e' with e'
  subst e'
  have hnb := hA ad rfl
  have b0 : (ad.add p).block ≠ ba := by rw [block_add]; exact hnb
  have b1 : (ad.add (p + 1)).block ≠ ba := by rw [block_add]; exact hnb
  have d0 : (w.setCell ⟨ba, 0, none⟩ (.int .i64 ((p : Int) + 2))).cell? (ad.add p) = some (.int .u8 (bt l p)) := by
    rw [World.cell?_setCell_other w _ _ _ (fun e => b0 (by rw [← e]))]; exact c0
  have d1 : (w.setCell ⟨ba, 0, none⟩ (.int .i64 ((p : Int) + 2))).cell? (ad.add (p + 1)) = some (.int .u8 (bt l (p + 1))) := by
    rw [World.cell?_setCell_other w _ _ _ (fun e => b1 (by rw [← e]))]; exact c1
  have ea : ad.add (p + 1) = ⟨ad.block, ad.off + (p + 1), none⟩ := by simp [Addr.add]
  rw [ea] at d1
  clear ea
  obtain ⟨h00, h01⟩ := h0
  obtain ⟨h10, h11⟩ := h1
  have hi0 : ((p : Int) + 2 - 2) = (p : Int) := by omega
  have hi1 : ((p : Int) + 2 - 1) = (p : Int) + 1 := by omega
  have hj1 : ((p : Int) + 1).toNat = p + 1 := by omega
  have hl0 : (0 : Int) ≤ (p : Int) + 1 := by omega
  have hl1 : (p : Int) + 1 < (n : Int) := by omega
  have hl2 : (p : Int) < (n : Int) := by omega
  have w0 : IntKind.i64.wrap (p : Int) = (p : Int) := IntWalk.i64_in _ (by omega)
  have w1 : IntKind.i64.wrap ((p : Int) + 1) = (p : Int) + 1 := IntWalk.i64_in _ (by omega)
  have w2 : IntKind.u8.wrap (bt l p - 48) = bt l p - 48 := IntWalk.u8_in _ (by omega)
  have w3 : IntKind.u8.wrap (bt l (p + 1) - 48) = bt l (p + 1) - 48 := IntWalk.u8_in _ (by omega)
  have w4 : IntKind.i64.wrap (bt l p - 48) = bt l p - 48 := IntWalk.i64_in _ (by omega)
  have w5 : IntKind.i64.wrap (bt l (p + 1) - 48) = bt l (p + 1) - 48 := IntWalk.i64_in _ (by omega)
  have w6 : IntKind.i64.wrap ((bt l p - 48) * 10) = (bt l p - 48) * 10 := IntWalk.i64_in _ (by omega)
  have w7 : IntKind.i64.wrap ((bt l p - 48) * 10 + (bt l (p + 1) - 48)) = (bt l p - 48) * 10 + (bt l (p + 1) - 48) := IntWalk.i64_in _ (by omega)
  go_enter Try.func161, Try.ntmps161
  go_wp2
  go_quiet (fail)
  go_wp2
  go_ret
  exact ⟨rfl, _, by rw [show (((p + 2 : Nat)) : Int) = (p : Int) + 2 from by omega]⟩
end Go.Proofs.Ytnpmgofkfdpbjaa.Clk
/- Walks: the clock's decode. -/
namespace Go.Proofs.Ytnpmgofkfdpbjaa.Clk
open Go.RowKit Kit

/-- bytes that are no digits and a Z, so many for the year, are not decoded -/
theorem notC_cases {dg : Nat} {l : List UInt8} (h : ¬ okC dg l) : l.length ≠ dg + 11 ∨ (l.length = dg + 11 ∧ bt l (dg + 10) ≠ 90) ∨
    (l.length = dg + 11 ∧ bt l (dg + 10) = 90 ∧ ∃ k, k < dg + 10 ∧ ¬ (48 ≤ bt l k ∧ bt l k ≤ 57)) := by
  by_cases h1 : l.length = dg + 11
  · by_cases h2 : bt l (dg + 10) = 90
    · refine .inr (.inr ⟨h1, h2, ?_⟩)
      refine Classical.byContradiction fun hn => h ⟨h1, h2, fun k hk => Classical.byContradiction fun hk' => hn ⟨k, hk, hk'⟩⟩
    · exact .inr (.inl ⟨h1, h2⟩)
  · exact .inl h1

theorem add_pos (ad : Addr) {k : Nat} (h : k ≠ 0) : ad.add k = ⟨ad.block, ad.off + k, none⟩ := by simp [Addr.add, h]

set_option maxHeartbeats 2000000 in
theorem decode_no {A : Option Addr} {n c B dg : Nat} {l : List UInt8} (w : World) (hr : Rd w B A n l) (hB : B ≤ w.heap.size) (hn : n ≤ 100000) (hc : n ≤ c) (hd : dg = 2 ∨ dg = 4) (hno : ¬ okC dg l) :
    Calls Try.prog 142 #[.slice A n c, .int .i64 (dg : Int)] w fun e w' => e = .returned (.tuple #[time 0 0 0 0 0 0, .bool false]) ∧ Below w.heap.size w w' := by
  have hl := hr.len
  rcases notC_cases hno with h1 | ⟨h1, h2⟩ | ⟨h1, h2, k0, hk0, hbad⟩
  · have h1' : ¬ ((n : Int) = (dg : Int) + 11) := by omega
    clear hno h1 hl
    go_enter Try.func142, Try.ntmps142
    go_wp2
    refine bodyPost_ret (v := .tuple #[time 0 0 0 0 0 0, .bool false]) (by simp [results, Try.results142, go_sem, *]) rfl ?_
    exact ⟨ret2 rfl rfl, (by repeat' (first | (with_reducible exact Below.refl _ _) | (with_reducible assumption) | (with_reducible refine below_drewN ?_ _) | (with_reducible refine Below.drew ?_) | (with_reducible refine Below.alloc ?_ ?_ _) | (with_reducible refine Below.setCell ?_ ?_ _) | go_size))⟩
  · have hn' : n = dg + 11 := by omega
    subst hn'
    obtain ⟨ad, rfl, hb, c0⟩ := hr.at_ (k := dg + 10) (by omega)
    have hb0 : ad.block < w.heap.size := by omega
    have hb1 : ad.block < w.heap.size + 1 := by omega
    clear hno h1 hl
    rcases hd with rfl | rfl
    all_goals
      rw [add_pos ad (by omega)] at c0
      simp only [Nat.reduceAdd] at c0 h2
      go_enter Try.func142, Try.ntmps142
      go_wp2
      refine bodyPost_ret (v := .tuple #[time 0 0 0 0 0 0, .bool false]) (by simp [results, Try.results142, go_sem, *]) rfl ?_
      exact ⟨ret2 rfl rfl, (by repeat' (first | (with_reducible exact Below.refl _ _) | (with_reducible assumption) | (with_reducible refine below_drewN ?_ _) | (with_reducible refine Below.drew ?_) | (with_reducible refine Below.alloc ?_ ?_ _) | (with_reducible refine Below.setCell ?_ ?_ _) | go_size))⟩
  · have hn' : n = dg + 11 := by omega
    subst hn'
    obtain ⟨ad, rfl, hb, c1⟩ := hr.all_ (by omega)
    have hb0 : ad.block < w.heap.size := by omega
    have hb1 : ad.block < w.heap.size + 1 := by omega
    have C1 := Lib.hid c1
    have c0 := c1 (dg + 10) (by omega)
    clear hno h1 hl c1
    rcases hd with rfl | rfl
    all_goals
      rw [add_pos ad (by omega)] at c0
      simp only [Nat.reduceAdd] at c0 h2 hk0
      go_enter Try.func142, Try.ntmps142
      go_wp2
      go_loop [34] (fun i => ∃ k : Nat, k ≤ k0 ∧ i = .int .i64 k) (fun i => k0 + 1 - (intOf i).toNat)
      case atStart => exact ⟨0, Nat.zero_le _, rfl⟩
      case round =>
        obtain ⟨k, hk, rfl⟩ := hrel
        have ck := C1.out k (by omega)
        have bk0 : (ad.add k).block < w.heap.size := by rw [block_add]; exact hb0
        have bk1 : (ad.add k).block < w.heap.size + 1 := by rw [block_add]; exact hb1
        by_cases hlo : bt l k < 48
        · go_wp2
          refine bodyPost_ret (v := .tuple #[time 0 0 0 0 0 0, .bool false]) (by simp [results, Try.results142, go_sem, *]) rfl ?_
          exact ⟨ret2 rfl rfl, (by repeat' (first | (with_reducible exact Below.refl _ _) | (with_reducible assumption) | (with_reducible refine below_drewN ?_ _) | (with_reducible refine Below.drew ?_) | (with_reducible refine Below.alloc ?_ ?_ _) | (with_reducible refine Below.setCell ?_ ?_ _) | go_size))⟩
        · by_cases hhi : 57 < bt l k
          · go_wp2
            refine bodyPost_ret (v := .tuple #[time 0 0 0 0 0 0, .bool false]) (by simp [results, Try.results142, go_sem, *]) rfl ?_
            exact ⟨ret2 rfl rfl, (by repeat' (first | (with_reducible exact Below.refl _ _) | (with_reducible assumption) | (with_reducible refine below_drewN ?_ _) | (with_reducible refine Below.drew ?_) | (with_reducible refine Below.alloc ?_ ?_ _) | (with_reducible refine Below.setCell ?_ ?_ _) | go_size))⟩
          · go_wp2
            go_round
            case rel => exact ⟨k + 1, by (have : k ≠ k0 := fun e => hbad (by subst e; omega)); omega, by go_num⟩
            case measure => simp [intOf]; omega
end Go.Proofs.Ytnpmgofkfdpbjaa.Clk
/- Walks: the clock's decode: what its blocks hold; the next two digits in these words. -/
namespace Go.Proofs.Ytnpmgofkfdpbjaa.Clk
open Go.RowKit Kit

/-- the blocks of a running decode: the input, the result, the index, the point in time -/
def DS (w wx : World) (b0 b1 b2 b3 : Nat) (A : Option Addr) (n c : Nat) (l : List UInt8) (p : Nat) (cs : Array Value) : Prop :=
  wx.heap[b0]? = some (.cells #[.slice A n c] 29 (0, 0)) ∧ wx.heap[b1]? = some (.cells #[.int .i64 0, .int .i64 0, .int .i64 0, .int .i64 0, .int .i64 0, .int .i64 0] 28 (0, 0)) ∧
  wx.heap[b2]? = some (.cells #[.int .i64 (p : Int)] 3 (0, 0)) ∧ wx.heap[b3]? = some (.cells cs 28 (0, 0)) ∧ (Rd wx w.heap.size A n l ∧ Below w.heap.size w wx) ∧ (w.heap.size ≤ b0 ∧ b0 < b1 ∧ b1 < b2 ∧ b2 < b3)
section
variable {w wx : World} {b0 b1 b2 b3 : Nat} {A : Option Addr} {n c : Nat} {l : List UInt8} {p : Nat} {cs : Array Value}
theorem DS.alloc (h : DS w wx b0 b1 b2 b3 A n c l p cs) (o : Obj) : DS w (wx.alloc o) b0 b1 b2 b3 A n c l p cs := by
  obtain ⟨h0, h1, h2, h3, ⟨h4, h5⟩, h6⟩ := h
  exact ⟨(Below.heap_alloc wx o b0 (Blk_lt h0)).trans h0, (Below.heap_alloc wx o b1 (Blk_lt h1)).trans h1, (Below.heap_alloc wx o b2 (Blk_lt h2)).trans h2, (Below.heap_alloc wx o b3 (Blk_lt h3)).trans h3,
    ⟨h4.alloc h5.size _, h5.alloc h5.size _⟩, h6⟩
theorem DS.drewN (h : DS w wx b0 b1 b2 b3 A n c l p cs) (k : Nat) : DS w (wx.drewN k) b0 b1 b2 b3 A n c l p cs := by
  obtain ⟨h0, h1, h2, h3, ⟨h4, h5⟩, h6⟩ := h
  exact ⟨h0, h1, h2, h3, ⟨h4.drewN k, below_drewN h5 k⟩, h6⟩
theorem DS.drew (h : DS w wx b0 b1 b2 b3 A n c l p cs) : DS w wx.drew b0 b1 b2 b3 A n c l p cs := h.drewN 1
theorem DS.set (h : DS w wx b0 b1 b2 b3 A n c l p cs) (k : Nat) (v : Value) : DS w (wx.setCell ⟨b3, k, none⟩ v) b0 b1 b2 b3 A n c l p (cs.setIfInBounds k v) := by
  obtain ⟨h0, h1, h2, h3, ⟨h4, h5⟩, h6⟩ := h
  exact ⟨(Below.heap_setCell wx _ v b0 (by simp; omega)).trans h0, (Below.heap_setCell wx _ v b1 (by simp; omega)).trans h1, (Below.heap_setCell wx _ v b2 (by simp; omega)).trans h2,
    heap_setCell_same wx b3 k cs _ v h3, ⟨h4.setCell (by simp; omega) _, h5.setCell (by simp; omega) _⟩, h6⟩
theorem DS.cell (h : DS w wx b0 b1 b2 b3 A n c l p cs) (k : Nat) : wx.cell? ⟨b3, k, none⟩ = cs[k]? := by
  rw [cell_of_row wx b3 k _ _ _ h.2.2.2.1]
theorem DS.frozen (h : DS w wx b0 b1 b2 b3 A n c l p cs) (k : Nat) : wx.frozen? ⟨b3, k, none⟩ = false := frozen_of_row wx b3 k _ _ h.2.2.2.1
theorem DS.lt (h : DS w wx b0 b1 b2 b3 A n c l p cs) : b3 < wx.heap.size := Blk_lt h.2.2.2.1
theorem DS.free1 (h : DS w wx b0 b1 b2 b3 A n c l p cs) (k : Nat) : wx.frozen? ⟨b1, k, none⟩ = false := frozen_of_row wx b1 k _ _ h.2.1
theorem DS.cell1 (h : DS w wx b0 b1 b2 b3 A n c l p cs) (k : Nat) (hk : k < 6) : wx.cell? ⟨b1, k, none⟩ = some (.int .i64 0) := by
  rw [cell_of_row wx b1 k _ _ _ h.2.1]
  have hk' : k = 0 ∨ k = 1 ∨ k = 2 ∨ k = 3 ∨ k = 4 ∨ k = 5 := by omega
  rcases hk' with rfl | rfl | rfl | rfl | rfl | rfl <;> rfl
theorem DS.below (h : DS w wx b0 b1 b2 b3 A n c l p cs) : Below w.heap.size w wx := h.2.2.2.2.1.2

theorem DS.past {w' : World} (h : DS w wx b0 b1 b2 b3 A n c l p cs) (hb : Below wx.heap.size wx w') : DS w w' b0 b1 b2 b3 A n c l p cs := by
  obtain ⟨h0, h1, h2, h3, ⟨h4, h5⟩, h6⟩ := h
  exact ⟨(hb.block b0 (Blk_lt h0)).trans h0, (hb.block b1 (Blk_lt h1)).trans h1, (hb.block b2 (Blk_lt h2)).trans h2, (hb.block b3 (Blk_lt h3)).trans h3, ⟨h4.below (hb.mono h5.size), h5.trans (hb.mono h5.size)⟩, h6⟩

theorem bk_new {w : World} {b : Nat} {o : Obj} (h : b = w.heap.size) : (w.alloc o).heap[b]? = some o := by subst h; exact heap_alloc_new w o
theorem bk_old {w : World} {b : Nat} {o o' : Obj} (h : w.heap[b]? = some o) : (w.alloc o').heap[b]? = some o := (Below.heap_alloc w o' b (Blk_lt h)).trans h

/-- the first two digits -/
theorem next_first {dg : Nat} (hr : Rd w w.heap.size A n l) (hok : okC dg l) (hd : dg ≤ 4) :
    Calls Try.prog 161 #[.pointer (some ⟨w.heap.size + 1 + 1, 0, none⟩), .pointer (some ⟨w.heap.size, 0, none⟩)]
      (((w.alloc (.cells #[.slice A n c] 29)).alloc (.cells #[.int .i64 0, .int .i64 0, .int .i64 0, .int .i64 0, .int .i64 0, .int .i64 0] 28)).alloc (.cells #[.int .i64 0] 3))
      fun e w' => e = .returned (.int .i64 (pr l 0)) ∧ ∀ cs, DS w (w'.alloc (.cells cs 28)) w.heap.size (w.heap.size + 1) (w.heap.size + 1 + 1) w'.heap.size A n c l 2 cs := by
  have hn : n = dg + 11 := by rw [← hr.len]; exact hok.1
  have hr3 := ((hr.alloc (Nat.le_refl _) (.cells #[.slice A n c] 29)).alloc (by simp) (.cells #[.int .i64 0, .int .i64 0, .int .i64 0, .int .i64 0, .int .i64 0, .int .i64 0] 28)).alloc (by simp; omega) (.cells #[.int .i64 0] 3)
  have f0 : (((w.alloc (.cells #[.slice A n c] 29)).alloc (.cells #[.int .i64 0, .int .i64 0, .int .i64 0, .int .i64 0, .int .i64 0, .int .i64 0] 28)).alloc (.cells #[.int .i64 0] 3)).heap[w.heap.size]? = _ := bk_old (bk_old (bk_new rfl))
  have f1 : (((w.alloc (.cells #[.slice A n c] 29)).alloc (.cells #[.int .i64 0, .int .i64 0, .int .i64 0, .int .i64 0, .int .i64 0, .int .i64 0] 28)).alloc (.cells #[.int .i64 0] 3)).heap[w.heap.size + 1]? = _ := bk_old (bk_new (by simp))
  have f2 : (((w.alloc (.cells #[.slice A n c] 29)).alloc (.cells #[.int .i64 0, .int .i64 0, .int .i64 0, .int .i64 0, .int .i64 0, .int .i64 0] 28)).alloc (.cells #[.int .i64 0] 3)).heap[w.heap.size + 1 + 1]? = _ := bk_new (by simp)
  have hbl : Below w.heap.size w (((w.alloc (.cells #[.slice A n c] 29)).alloc (.cells #[.int .i64 0, .int .i64 0, .int .i64 0, .int .i64 0, .int .i64 0, .int .i64 0] 28)).alloc (.cells #[.int .i64 0] 3)) := (by repeat' (first | (with_reducible exact Below.refl _ _) | (with_reducible assumption) | (with_reducible refine below_drewN ?_ _) | (with_reducible refine Below.drew ?_) | (with_reducible refine Below.alloc ?_ ?_ _) | (with_reducible refine Below.setCell ?_ ?_ _) | go_size))
  have hz : (((w.alloc (.cells #[.slice A n c] 29)).alloc (.cells #[.int .i64 0, .int .i64 0, .int .i64 0, .int .i64 0, .int .i64 0, .int .i64 0] 28)).alloc (.cells #[.int .i64 0] 3)).heap.size = w.heap.size + 3 := by simp
  generalize (((w.alloc (.cells #[.slice A n c] 29)).alloc (.cells #[.int .i64 0, .int .i64 0, .int .i64 0, .int .i64 0, .int .i64 0, .int .i64 0] 28)).alloc (.cells #[.int .i64 0] 3)) = w3 at *
  refine (next_any (p := 0) w3 hr3 f2 f0 (by omega) (fun ad e hb => ?_) (by omega) (by omega) (hok.2.2 _ (by omega)) (hok.2.2 _ (by omega))).mono ?_
  · obtain ⟨ad', e', hlt, _⟩ := hr.all_ (by omega)
    rw [e] at e'
    injection e' with e'
    subst e'
    omega
  · rintro e w' ⟨rfl, k, rfl⟩
    have g2 := heap_setCell_same w3 (w.heap.size + 1 + 1) 0 _ _ (.int .i64 ((0 + 2 : Nat) : Int)) f2
    refine ⟨rfl, fun cs => ?_⟩
    exact ⟨bk_old ((Below.heap_setCell w3 _ _ _ (by simp; omega)).trans f0), bk_old ((Below.heap_setCell w3 _ _ _ (by simp)).trans f1), bk_old (by simpa using g2), bk_new rfl,
      ⟨((hr3.setCell (by simp; omega) _).drewN k).alloc (by simp; omega) _, (below_drewN (hbl.setCell (by simp; omega) _) k).alloc (by simp; omega) _⟩, by simp; omega⟩

theorem next_ds {dg : Nat} (wx : World) (h : DS w wx b0 b1 b2 b3 A n c l p cs) (hok : okC dg l) (hp : p + 1 < dg + 10) (hd : dg ≤ 4) :
    Calls Try.prog 161 #[.pointer (some ⟨b2, 0, none⟩), .pointer (some ⟨b0, 0, none⟩)] wx fun e w' => e = .returned (.int .i64 (pr l p)) ∧ DS w w' b0 b1 b2 b3 A n c l (p + 2) cs ∧ wx.grownBy w' (some b2) := by
  obtain ⟨h0, h1, h2, h3, ⟨h4, h5⟩, h6⟩ := h
  have hn : n = dg + 11 := by rw [← h4.len]; exact hok.1
  refine (next_any wx h4 h2 h0 (by omega) (fun ad e hb => ?_) (by omega) (by omega) (hok.2.2 _ (by omega)) (hok.2.2 _ (by omega))).mono ?_
  · obtain ⟨ad', e', hlt, _⟩ := h4.all_ (by omega)
    rw [e] at e'
    injection e' with e'
    subst e'
    omega
  · rintro e w' ⟨rfl, k, rfl⟩
    have g2 := heap_setCell_same wx b2 0 _ _ (.int .i64 ((p + 2 : Nat) : Int)) h2
    refine ⟨rfl, DS.drewN ⟨(Below.heap_setCell wx _ _ b0 (by simp; omega)).trans h0, (Below.heap_setCell wx _ _ b1 (by simp; omega)).trans h1, by simpa using g2,
      (Below.heap_setCell wx _ _ b3 (by simp; omega)).trans h3, ⟨h4.setCell (by simp; omega) _, h5.setCell (by simp; omega) _⟩, h6⟩ k, ?_⟩
    exact grown_drewN (grown_set (World.grownBy.refl _ _) _ _) _
end

/-- the point in time, as far as it is read -/
def tcs (y : Int) (dg : Nat) (l : List UInt8) (k : Nat) : Array Value :=
  #[.int .i64 y, .int .i64 (if 0 < k then pr l dg else 0), .int .i64 (if 1 < k then pr l (dg + 2) else 0), .int .i64 (if 2 < k then pr l (dg + 4) else 0), .int .i64 (if 3 < k then pr l (dg + 6) else 0), .int .i64 (if 4 < k then pr l (dg + 8) else 0)]
theorem tcs_at {y : Int} {dg k : Nat} {l : List UInt8} (h : k < 5) : (tcs y dg l k)[k + 1]? = some (.int .i64 0) := by
  have hk' : k = 0 ∨ k = 1 ∨ k = 2 ∨ k = 3 ∨ k = 4 := by omega
  rcases hk' with rfl | rfl | rfl | rfl | rfl <;> rfl
theorem tcs_set {y : Int} {dg k : Nat} {l : List UInt8} (h : k < 5) : (tcs y dg l k).setIfInBounds (k + 1) (.int .i64 (pr l (dg + 2 * k))) = tcs y dg l (k + 1) := by
  have hk' : k = 0 ∨ k = 1 ∨ k = 2 ∨ k = 3 ∨ k = 4 := by omega
  rcases hk' with rfl | rfl | rfl | rfl | rfl <;> rfl
theorem tcs_zero (y : Int) (dg : Nat) (l : List UInt8) : tcs y dg l 0 = #[.int .i64 y, .int .i64 0, .int .i64 0, .int .i64 0, .int .i64 0, .int .i64 0] := rfl
theorem tcs_five (y : Int) (dg : Nat) (l : List UInt8) : tcs y dg l 5 = #[.int .i64 y, .int .i64 (pr l dg), .int .i64 (pr l (dg + 2)), .int .i64 (pr l (dg + 4)), .int .i64 (pr l (dg + 6)), .int .i64 (pr l (dg + 8))] := rfl
/-- the five pointers -/
def pts (b : Nat) : Array Value := #[.pointer (some ⟨b, 1, none⟩), .pointer (some ⟨b, 2, none⟩), .pointer (some ⟨b, 3, none⟩), .pointer (some ⟨b, 4, none⟩), .pointer (some ⟨b, 5, none⟩)]
theorem pts_at {b k : Nat} (h : k < 5) : (pts b)[k]? = some (.pointer (some ⟨b, k + 1, none⟩)) := by
  have hk' : k = 0 ∨ k = 1 ∨ k = 2 ∨ k = 3 ∨ k = 4 := by omega
  rcases hk' with rfl | rfl | rfl | rfl | rfl <;> rfl
end Go.Proofs.Ytnpmgofkfdpbjaa.Clk
/- Walks: the clock's decode of a UTCTime's digits. -/
namespace Go.Proofs.Ytnpmgofkfdpbjaa.Clk
open Go.RowKit Kit

set_option maxHeartbeats 2000000 in
set_option maxRecDepth 100000 in
theorem decode2_ok {A : Option Addr} {n c : Nat} {l : List UInt8} (w : World) (hr : Rd w w.heap.size A n l) (hc : n ≤ c) (hok : okC 2 l) :
    Calls Try.prog 142 #[.slice A n c, .int .i64 2] w fun e w' => e = .returned (.tuple #[time (yr2 l) (pr l 2) (pr l 4) (pr l 6) (pr l 8) (pr l 10), .bool (validB (yr2 l) (pr l 2) (pr l 4) (pr l 6) (pr l 8) (pr l 10))]) ∧ Below w.heap.size w w' := by
  have hn : n = 2 + 11 := by rw [← hr.len]; exact hok.1
  obtain rfl : n = 13 := hn
  have hr0 := hr
  obtain ⟨ad, rfl, hb0, c1⟩ := hr.all_ (by omega)
  have hb1 : ad.block < w.heap.size + 1 := by omega
  have C1 := Lib.hid c1
  have c0 := c1 12 (by omega)
  rw [add_pos ad (by omega)] at c0
  have hz := hok.2.1
  have hD := hok.2.2
  have HD := Lib.hid hD
  have HK := Lib.hid hok
  simp only [Nat.reduceAdd] at hz
  have H4 := Lib.hid hr0
  clear c1 hD hok hr hr0
  go_enter Try.func142, Try.ntmps142
  go_wp2
  go_loop [34] (fun i => ∃ k : Nat, k ≤ 12 ∧ i = .int .i64 k) (fun i => 13 - (intOf i).toNat)
  case atStart => exact ⟨0, Nat.zero_le _, rfl⟩
  case round =>
    obtain ⟨k, hk, rfl⟩ := hrel
    by_cases hlt : k < 12
    · have ck := C1.out k (by omega)
      have bk0 : (ad.add k).block < w.heap.size := by rw [block_add]; exact hb0
      have bk1 : (ad.add k).block < w.heap.size + 1 := by rw [block_add]; exact hb1
      obtain ⟨hlo, hhi⟩ := HD.out k (by omega)
      go_wp2
      go_round
      case rel => exact ⟨k + 1, by omega, by go_num⟩
      case measure => simp [intOf]; omega
    · obtain rfl : k = 12 := by omega
      clear c0 hz
      have NF := Lib.hid (next_first (c := c) H4.out HK.out (by omega))
      have HY := Lib.hid (show yr2 l = if pr l 0 < 50 then pr l 0 + 2000 else pr l 0 + 1900 from rfl)
      obtain ⟨p0, p1⟩ := pr_bd HK.out (show 0 + 1 < 2 + 10 by omega)
      have NX := Lib.hid (fun (b1 b2 b3 p : Nat) (cs : Array Value) (wx : World) (h : DS w wx w.heap.size b1 b2 b3 (some ad) 13 c l p cs) (hp : p + 1 < 12) => next_ds wx h HK.out hp (by omega))
      obtain ⟨y, hyy⟩ : ∃ y, yr2 l = y := ⟨_, rfl⟩
      have HYY := Lib.hid hyy
      have hcase : (pr l 0 + 1900 < 1950 ∧ y = pr l 0 + 1900 + 100) ∨ (¬ pr l 0 + 1900 < 1950 ∧ y = pr l 0 + 1900) := by
        rw [← hyy, HY.out]
        by_cases h : pr l 0 < 50
        · rw [if_pos h]; omega
        · rw [if_neg h]; omega
      clear hyy HY
      rcases hcase with ⟨hlt', rfl⟩ | ⟨hlt', rfl⟩
      all_goals
        go_wp2_with (first | (go_at_call 161; refine NF.out.mono ?_; rintro e w4 ⟨rfl, ds4⟩; have DS4 := Lib.hid ds4; clear ds4))
        go_loopw [77] (fun i wr => ∃ k : Nat, k ≤ 5 ∧ i = .int .i64 (k : Int) ∧ DS w wr w.heap.size (w.heap.size + 1) (w.heap.size + 1 + 1) w4.heap.size (some ad) 13 c l (2 + 2 * k) (tcs (yr2 l) 2 l k) ∧ wr.heap[w4.heap.size + 1]? = some (.cells (pts w4.heap.size) 168 (0, 0))) (fun i _ => 5 - (intOf i).toNat)
        case atStart => 
          refine ⟨0, by omega, rfl, ?_, bk_new (by simp)⟩
          rw [tcs_zero, HYY.out]
          exact (DS4.out _).alloc _
        case round => 
          obtain ⟨k, hk5, rfl, hds, hpt⟩ := hrel
          by_cases hlt : k < 5
          · have cp := cell_of_row wr _ k _ _ _ hpt
            rw [pts_at hlt] at cp
            have TS := Lib.hid (tcs_set (y := yr2 l) (dg := 2) (l := l) hlt)
            have TA := Lib.hid (tcs_at (y := yr2 l) (dg := 2) (l := l) hlt)
            have PT := Lib.hid hpt
            have HDS := Lib.hid hds
            have hb2 : w4.heap.size + 1 ≠ w.heap.size + 1 + 1 := by have := hds.2.2.2.2.2; omega
            have hb3 : w4.heap.size + 1 ≠ w4.heap.size := by omega
            clear hpt hds
            go_wp2_with (first | (go_at_call 161; refine (NX.out _ _ _ _ _ _ HDS.out (by omega)).mono ?_; rintro e w2 ⟨rfl, ds2, hg2⟩; have c2 := ds2.cell (k + 1); rw [TA.out] at c2; have f2 := ds2.frozen (k + 1); have DS2 := Lib.hid ds2; clear ds2))
            go_roundw
            case rel =>
              refine ⟨k + 1, by omega, by go_num, ?_, ?_⟩
              · have := DS2.out.set (k + 1) (.int .i64 (pr l (2 + 2 * k)))
                rw [TS.out] at this
                exact this
              · refine (Below.heap_setCell _ _ _ _ (by simp)).trans ?_
                exact (hg2.block _ (Blk_lt PT.out) (fun e => hb2 (by injection e))).trans PT.out
            case measure => simp [intOf]; omega
          · obtain rfl : k = 5 := by omega
            rw [tcs_five] at hds
            have HV := Lib.hid (valid_any (yr2 l) (pr l 2) (pr l 4) (pr l 6) (pr l 8) (pr l 10) wr.drew)
            obtain ⟨q0, q1, q2, q3, q4, q5⟩ := cells6 hds.2.2.2.1
            have HDS := Lib.hid hds.drew
            have HB := Lib.hid hds.below
            clear hds hpt
            go_wp2_with fail
            go_region_with (first | (go_at_call 86; refine HV.out.mono ?_; rintro e w5 ⟨rfl, hb5⟩; have ds5 := Lib.hid (HDS.out.past hb5); obtain ⟨t0, t1, t2, t3, t4, t5⟩ := cells6 ds5.out.2.2.2.1; have z0 := ds5.out.cell1 0 (by omega); have z1 := ds5.out.cell1 1 (by omega); have z2 := ds5.out.cell1 2 (by omega); have z3 := ds5.out.cell1 3 (by omega); have z4 := ds5.out.cell1 4 (by omega); have z5 := ds5.out.cell1 5 (by omega); have g0 := ds5.out.free1 0; have g1 := ds5.out.free1 1; have g2 := ds5.out.free1 2; have g3 := ds5.out.free1 3; have g4 := ds5.out.free1 4; have g5 := ds5.out.free1 5))
            all_goals
              go_wp2
              clear z0 z1 z2 z3 z4 z5 g0 g1 g2 g3 g4 g5 t0 t1 t2 t3 t4 t5 q0 q1 q2 q3 q4 q5
              have zz := ds5.out.cell1
              refine bodyPost_ret (v := .tuple #[time (yr2 l) (pr l 2) (pr l 4) (pr l 6) (pr l 8) (pr l 10), .bool (validB (yr2 l) (pr l 2) (pr l 4) (pr l 6) (pr l 8) (pr l 10))]) (by simp [results, Try.results142, go_sem, *]) rfl ?_
              refine ⟨rfl, ?_⟩
              have := ds5.out.below
              have hsz : w.heap.size ≤ w.heap.size + 1 := by omega
              exact (by repeat' (first | (with_reducible exact Below.refl _ _) | (with_reducible assumption) | (with_reducible refine below_drewN ?_ _) | (with_reducible refine Below.drew ?_) | (with_reducible refine Below.alloc ?_ ?_ _) | (with_reducible refine Below.setCell ?_ ?_ _) | go_size))
end Go.Proofs.Ytnpmgofkfdpbjaa.Clk
