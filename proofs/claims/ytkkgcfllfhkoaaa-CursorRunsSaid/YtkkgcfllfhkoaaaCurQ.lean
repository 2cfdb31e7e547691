/- Two cursors over one list, side by side: the program's and the reference's. -/
import Derived.Test.YtkkgcfllfhkoaaaCurM
set_option linter.unusedSimpArgs false
set_option linter.unusedVariables false
namespace Go.Proofs.Ytkkgcfllfhkoaaa.Cur
open Go.RowKit Kit

/-- in blocks from w0's size up to hi: a cursor over l at p1; from hi on: the reference's, at p2 -/
def RS (w0 wr : World) (hi g1 g2 : Nat) (A2 : Option Addr) (c2 : Nat) (l : List UInt8) (p1 p2 : Nat) : Prop :=
  CuL wr w0.heap.size hi g1 l p1 ∧ Rc wr g2 A2 l.length c2 p2 ∧ Own wr hi A2 l.length c2 l ∧ hi ≤ g2 ∧ Below w0.heap.size w0 wr
section
variable {w0 wr w' : World} {hi g1 g2 c2 p1 p2 q : Nat} {A2 : Option Addr} {l : List UInt8}
theorem RS.a (h : RS w0 wr hi g1 g2 A2 c2 l p1 p2) (hg : wr.grownBy w' (some g1)) (hc : CuL w' w0.heap.size hi g1 l q) : RS w0 w' hi g1 g2 A2 c2 l q p2 := by
  obtain ⟨h1, h2, h3, h4, h5⟩ := h
  have hh := h1.hi_
  refine ⟨hc, h2.grown hg (fun e => ?_), h3.grown hg (fun k e e' => ?_), h4, h5.grown hg h5.size (fun k e => ?_)⟩
  · injection e with e; omega
  · have := (h3.blk e').1; injection e with e; omega
  · injection e with e; omega
theorem RS.b (h : RS w0 wr hi g1 g2 A2 c2 l p1 p2) (hg : wr.grownBy w' (some g2)) (hc : Rc w' g2 A2 l.length c2 q) : RS w0 w' hi g1 g2 A2 c2 l p1 q := by
  obtain ⟨h1, h2, h3, h4, h5⟩ := h
  have hh := h1.hi_
  refine ⟨h1.other hg (fun k e => ?_), hc, h3.grown hg (fun k e e' => ?_), h4, h5.grown hg h5.size (fun k e => ?_)⟩
  · injection e with e; omega
  · injection e with e; subst e; exact own_ne h3 h2 (by decide) e'
  · injection e with e; omega
theorem RS.c (h : RS w0 wr hi g1 g2 A2 c2 l p1 p2) (hb : Below wr.heap.size wr w') : RS w0 w' hi g1 g2 A2 c2 l p1 p2 := by
  obtain ⟨h1, h2, h3, h4, h5⟩ := h
  exact ⟨h1.keep hb, h2.below hb h2.lt, h3.below hb, h4, h5.trans (hb.mono h5.size)⟩
theorem RS.alloc (h : RS w0 wr hi g1 g2 A2 c2 l p1 p2) (o : Obj) : RS w0 (wr.alloc o) hi g1 g2 A2 c2 l p1 p2 := h.c ((Below.refl _ _).alloc (Nat.le_refl _) o)
theorem RS.drewN (h : RS w0 wr hi g1 g2 A2 c2 l p1 p2) (k : Nat) : RS w0 (wr.drewN k) hi g1 g2 A2 c2 l p1 p2 := h.c ⟨rfl, rfl, rfl, Nat.le_refl _, fun _ _ => rfl⟩
theorem RS.drew (h : RS w0 wr hi g1 g2 A2 c2 l p1 p2) : RS w0 wr.drew hi g1 g2 A2 c2 l p1 p2 := h.c ⟨rfl, rfl, rfl, Nat.le_refl _, fun _ _ => rfl⟩
theorem RS.ne (h : RS w0 wr hi g1 g2 A2 c2 l p1 p2) : g1 < wr.heap.size ∧ g2 < wr.heap.size ∧ g1 ≠ g2 := by
  obtain ⟨h1, h2, h3, h4, h5⟩ := h
  have := h1.hi_; have := h1.lt; have := h2.lt
  omega

theorem RS.byte (h : RS w0 wr hi g1 g2 A2 c2 l p1 p2) : Calls Try.prog 38 #[.pointer (some ⟨g1, 0, none⟩)] wr fun e w' => e = .returned (.tuple #[.int .u8 (byteV l.length p1 l), err (tkCode l.length p1 1) (tkOff l.length p1 1)]) ∧
    wr.grownBy w' (some g1) ∧ RS w0 w' hi g1 g2 A2 c2 l (p1 + tkN l.length p1 1) p2 :=
  (byteL wr h.1).mono fun e w' ⟨he, hg, hc⟩ => ⟨he, hg, h.a hg hc⟩
theorem RS.take (h : RS w0 wr hi g1 g2 A2 c2 l p1 p2) (m : Int) : Calls Try.prog 35 #[.pointer (some ⟨g1, 0, none⟩), .int .i64 m] wr fun e w' => ∃ A' c', e = .returned (.tuple #[.slice A' (tkN l.length p1 m) c', err (tkCode l.length p1 m) (tkOff l.length p1 m)]) ∧
    Own w' wr.heap.size A' (tkN l.length p1 m) c' ((l.drop p1).take (tkN l.length p1 m)) ∧ wr.grownBy w' (some g1) ∧ RS w0 w' hi g1 g2 A2 c2 l (p1 + tkN l.length p1 m) p2 :=
  (takeL m wr h.1).mono fun e w' ⟨A', c', k, hk, he, ho, hg, hc⟩ => by subst hk; exact ⟨A', c', he, ho, hg, h.a hg hc⟩
theorem RS.reftake (h : RS w0 wr hi g1 g2 A2 c2 l p1 p2) (hp : p2 ≤ l.length) (m : Int) : Calls Try.prog 39 #[.pointer (some ⟨g2, 0, none⟩), .int .i64 m] wr fun e w' => ∃ A' c', e = .returned (.tuple #[.slice A' (tkN l.length p2 m) c', err (tkCode l.length p2 m) (tkOff l.length p2 m)]) ∧
    Own w' wr.heap.size A' (tkN l.length p2 m) c' ((l.drop p2).take (tkN l.length p2 m)) ∧ wr.grownBy w' (some g2) ∧ RS w0 w' hi g1 g2 A2 c2 l p1 (p2 + tkN l.length p2 m) := by
  have h0 := h
  obtain ⟨h1, h2, h3, h4, h5⟩ := h
  have hn : l.length ≤ 140737488355328 := by obtain ⟨A, c, _, _, _, _, h⟩ := h1; exact h
  refine (reftake_any m wr h2 h3.rd hp hn (fun ad e hb => ?_)).mono fun e w' ⟨A', c', k, hk, he, ho, hg, hc⟩ => by subst hk; exact ⟨A', c', he, ho, hg, h0.b hg hc⟩
  subst e
  rcases Nat.eq_zero_or_pos l.length with hz | hz
  · obtain ⟨gA, e⟩ : ∃ gA, ad = ⟨gA, 0, none⟩ := by
      rcases h3.2 with ⟨e, _⟩ | ⟨gA, cap, cur, hv, _⟩
      · cases e
      · injection hv with hv; injection hv with hv; exact ⟨gA, hv⟩
    subst e
    exact own_ne h3 h2 (by decide) (by simpa [Value.ownBlock] using hb)
  · obtain ⟨gA, e⟩ := h3.shape hz
    injection e with e
    subst e
    exact own_ne h3 h2 (by decide) (by simpa [Value.ownBlock] using hb)
theorem RS.seek (h : RS w0 wr hi g1 g2 A2 c2 l p1 p2) (m : Int) : Calls Try.prog 40 #[.pointer (some ⟨g1, 0, none⟩), .int .i64 m] wr fun e w' => e = .returned (err (skCode l.length m) (skOff l.length p1 m)) ∧
    wr.grownBy w' (some g1) ∧ RS w0 w' hi g1 g2 A2 c2 l (skPos l.length p1 m) p2 :=
  (seekL m wr h.1).mono fun e w' ⟨he, hg, hc⟩ => ⟨he, hg, h.a hg hc⟩
theorem RS.refseek (h : RS w0 wr hi g1 g2 A2 c2 l p1 p2) (m : Int) : Calls Try.prog 41 #[.pointer (some ⟨g2, 0, none⟩), .int .i64 m] wr fun e w' => e = .returned (err (skCode l.length m) (skOff l.length p2 m)) ∧
    wr.grownBy w' (some g2) ∧ RS w0 w' hi g1 g2 A2 c2 l p1 (skPos l.length p2 m) := by
  unfold skCode skOff skPos
  by_cases hq : 0 ≤ m ∧ m ≤ l.length
  · rw [if_pos hq, if_pos hq, if_pos hq]
    obtain ⟨j, rfl⟩ := Int.eq_ofNat_of_zero_le hq.1
    exact (refseek_ok wr h.2.1 (by omega)).mono fun e w' ⟨he, hg, hc⟩ => ⟨he, hg, h.b hg (by simpa using hc)⟩
  · rw [if_neg hq, if_neg hq, if_neg hq]
    exact (refseek_no m wr h.2.1 (by omega)).mono fun e w' ⟨he, hb⟩ => ⟨he, grown_of_below hb _, h.c hb⟩
theorem RS.pos (h : RS w0 wr hi g1 g2 A2 c2 l p1 p2) : p1 ≤ l.length := h.1.pos
theorem sk_pos_le {n p : Nat} (m : Int) (h : p ≤ n) : skPos n p m ≤ n := by unfold skPos; split <;> omega
theorem tk_pos_le {n p : Nat} (m : Int) (h : p ≤ n) : p + tkN n p m ≤ n := by unfold tkN; split <;> omega
/-- one slot of a row that grew elsewhere -/
theorem old_cell {w w' : World} {b : Nat} {r : Option Nat} {a : Addr} {v : Value} (h : w.cell? a = some v) (hB : a.block < b) (hb : b ≤ w.heap.size) (hg : w.grownBy w' r) (hr : ∀ k, r = some k → b ≤ k) : w'.cell? a = some v := by
  rw [(Below.grown (B := b) (Below.refl _ _) hg hb hr).cell hB]; exact h
end
end Go.Proofs.Ytkkgcfllfhkoaaa.Cur
