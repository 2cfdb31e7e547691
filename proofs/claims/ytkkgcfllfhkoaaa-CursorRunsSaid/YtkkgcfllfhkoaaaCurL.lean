/- A cursor over a list, in one word; its methods in these words. -/
import Derived.Test.YtkkgcfllfhkoaaaCurK
set_option linter.unusedSimpArgs false
set_option linter.unusedVariables false
namespace Go.Proofs.Ytkkgcfllfhkoaaa.Cur
open Go.RowKit Kit

/-- block g is a cursor over l at position p; all of it lies in blocks from lo up to hi -/
def CuL (w : World) (lo hi g : Nat) (l : List UInt8) (p : Nat) : Prop :=
  ∃ A c, Cu w g A l.length c p ∧ Own w lo A l.length c l ∧ (lo ≤ g ∧ g < hi ∧ ∀ k, (Value.slice A l.length c).ownBlock = some k → k < hi) ∧ p ≤ l.length ∧ l.length ≤ 140737488355328
def RcL (w : World) (lo g : Nat) (l : List UInt8) (p : Nat) (A : Option Addr) (c : Nat) : Prop :=
  Rc w g A l.length c p ∧ Own w lo A l.length c l ∧ lo ≤ g ∧ p ≤ l.length ∧ l.length ≤ 140737488355328

theorem CuL.keep {w w' : World} {lo hi g p : Nat} {l : List UInt8} (h : CuL w lo hi g l p) (hb : Below w.heap.size w w') : CuL w' lo hi g l p := by
  obtain ⟨A, c, hc, ho, h1, h2, h3⟩ := h
  exact ⟨A, c, hc.below hb hc.lt, ho.below hb, h1, h2, h3⟩
theorem CuL.other {w w' : World} {lo hi g p : Nat} {l : List UInt8} {r : Option Nat} (h : CuL w lo hi g l p) (hb : w.grownBy w' r) (hr : ∀ k, r = some k → k < lo ∨ hi ≤ k) : CuL w' lo hi g l p := by
  obtain ⟨A, c, hc, ho, h1, h2, h3⟩ := h
  refine ⟨A, c, hc.grown hb (fun e => ?_), ho.grown hb (fun k e e' => ?_), h1, h2, h3⟩
  · have := hr g e.symm; omega
  · have := hr k e; have := ho.blk e'; have := h1.2.2 k e'; omega
theorem CuL.lt {w : World} {lo hi g p : Nat} {l : List UInt8} (h : CuL w lo hi g l p) : lo ≤ g ∧ g < w.heap.size := by
  obtain ⟨A, c, hc, ho, h1, h2, h3⟩ := h
  exact ⟨h1.1, hc.lt⟩
theorem CuL.pos {w : World} {lo hi g p : Nat} {l : List UInt8} (h : CuL w lo hi g l p) : p ≤ l.length := by
  obtain ⟨A, c, hc, ho, h1, h2, h3⟩ := h
  exact h2

theorem newL {A : Option Addr} {n c : Nat} {l : List UInt8} (w : World) {B : Nat} (hr : Rd w B A n l) (hn : n ≤ 140737488355328) (hB : B ≤ w.heap.size) :
    Calls Try.prog 34 #[.slice A n c] w fun e w' => ∃ g, e = .returned (.pointer (some ⟨g, 0, none⟩)) ∧ CuL w' w.heap.size w'.heap.size g l 0 ∧ Below w.heap.size w w' := by
  refine (new_any A n c l w hr hn hB).mono ?_
  rintro e w' ⟨g, A', c', rfl, hg, hc, ho, hb⟩
  have hl := hr.len
  subst hl
  exact ⟨g, rfl, ⟨A', c', hc, ho, ⟨hg, hc.lt, fun k hk => (ho.blk hk).2⟩, Nat.zero_le _, hn⟩, hb⟩
theorem posL {lo hi g p : Nat} {l : List UInt8} (w : World) (h : CuL w lo hi g l p) :
    Calls Try.prog 42 #[.pointer (some ⟨g, 0, none⟩)] w fun e w' => e = .returned (.int .i64 (p : Int)) ∧ w = w' := by
  obtain ⟨A, c, hc, ho, h1, h2, h3⟩ := h
  exact pos_any w hc (Below.refl _ _)
theorem leftL {lo hi g p : Nat} {l : List UInt8} (w : World) (h : CuL w lo hi g l p) :
    Calls Try.prog 43 #[.pointer (some ⟨g, 0, none⟩)] w fun e w' => e = .returned (.int .i64 ((l.length - p : Nat) : Int)) ∧ ∃ m, w' = w.drewN m := by
  obtain ⟨A, c, hc, ho, h1, h2, h3⟩ := h
  exact left_any w hc (Below.refl _ _) h2 (by unfold maxLen; omega)
theorem takeL {lo hi g p : Nat} {l : List UInt8} (m : Int) (w : World) (h : CuL w lo hi g l p) :
    Calls Try.prog 35 #[.pointer (some ⟨g, 0, none⟩), .int .i64 m] w fun e w' => ∃ A' c' k, k = tkN l.length p m ∧ e = .returned (.tuple #[.slice A' k c', err (tkCode l.length p m) (tkOff l.length p m)]) ∧
      Own w' w.heap.size A' k c' ((l.drop p).take k) ∧ w.grownBy w' (some g) ∧ CuL w' lo hi g l (p + k) := by
  obtain ⟨A, c, hc, ho, h1, h2, h3⟩ := h
  refine (take_any m w hc ho.rd ho.cap h2 h3 ho.capMax).mono ?_
  rintro e w' ⟨A', c', k, hk, he, ho', hg, hc'⟩
  refine ⟨A', c', k, hk, he, ho', hg, ⟨A, c, hc', ho.grown hg (fun j e e' => ?_), h1, ?_, h3⟩⟩
  · injection e with e; subst e; exact own_ne ho hc (by decide) e'
  · rw [hk]; unfold tkN; split <;> omega
theorem restL {lo hi g p : Nat} {l : List UInt8} (w : World) (h : CuL w lo hi g l p) :
    Calls Try.prog 36 #[.pointer (some ⟨g, 0, none⟩)] w fun e w' => ∃ A' c', e = .returned (.slice A' (l.length - p) c') ∧ Own w' w.heap.size A' (l.length - p) c' (l.drop p) ∧ Below w.heap.size w w' := by
  obtain ⟨A, c, hc, ho, h1, h2, h3⟩ := h
  exact rest_any w hc ho.rd ho.cap h2 h3 ho.capMax
theorem byteL {lo hi g p : Nat} {l : List UInt8} (w : World) (h : CuL w lo hi g l p) :
    Calls Try.prog 38 #[.pointer (some ⟨g, 0, none⟩)] w fun e w' => e = .returned (.tuple #[.int .u8 (byteV l.length p l), err (tkCode l.length p 1) (tkOff l.length p 1)]) ∧
      w.grownBy w' (some g) ∧ CuL w' lo hi g l (p + tkN l.length p 1) := by
  have h0 := h
  obtain ⟨A, c, hc, ho, h1, h2, h3⟩ := h
  by_cases hp : p < l.length
  · obtain ⟨e1, e2, e3⟩ := tk_ok (n := l.length) (p := p) (m := 1) (by omega) (by omega)
    refine (byte_ok w hc ho.rd ho.cap hp h3 ho.capMax).mono ?_
    rintro e w' ⟨rfl, hg, hc'⟩
    refine ⟨by rw [e2, e3]; unfold byteV; rw [if_pos hp], hg, ⟨A, c, by rw [e1]; exact hc', ho.grown hg (fun j e e' => ?_), h1, by rw [e1]; simp; omega, h3⟩⟩
    injection e with e; subst e; exact own_ne ho hc (by decide) e'
  · obtain ⟨e1, e2, e3⟩ := tk_short (n := l.length) (p := p) (m := 1) (by omega) (by omega)
    refine (byte_no w hc (by omega) (by unfold maxLen; omega)).mono ?_
    rintro e w' ⟨rfl, hb⟩
    exact ⟨by rw [e2, e3]; unfold byteV; rw [if_neg hp], grown_of_below hb _, by rw [e1]; exact h0.keep hb⟩

/-- what Seek does -/
def skPos (n p : Nat) (q : Int) : Nat := if 0 ≤ q ∧ q ≤ n then q.toNat else p
def skCode (n : Nat) (q : Int) : Int := if 0 ≤ q ∧ q ≤ n then 0 else 9
def skOff (n p : Nat) (q : Int) : Int := if 0 ≤ q ∧ q ≤ n then 0 else p
theorem seekL {lo hi g p : Nat} {l : List UInt8} (q : Int) (w : World) (h : CuL w lo hi g l p) :
    Calls Try.prog 40 #[.pointer (some ⟨g, 0, none⟩), .int .i64 q] w fun e w' => e = .returned (err (skCode l.length q) (skOff l.length p q)) ∧
      w.grownBy w' (some g) ∧ CuL w' lo hi g l (skPos l.length p q) := by
  have h0 := h
  obtain ⟨A, c, hc, ho, h1, h2, h3⟩ := h
  have hm : l.length ≤ maxLen := by unfold maxLen; omega
  unfold skCode skOff skPos
  by_cases hq : 0 ≤ q ∧ q ≤ l.length
  · rw [if_pos hq, if_pos hq, if_pos hq]
    obtain ⟨j, rfl⟩ := Int.eq_ofNat_of_zero_le hq.1
    refine (seek_ok w hc h2 hm (by omega)).mono ?_
    rintro e w' ⟨rfl, hg, hc'⟩
    refine ⟨rfl, hg, ⟨A, c, by simpa using hc', ho.grown hg (fun j e e' => ?_), h1, by simp; omega, h3⟩⟩
    injection e with e; subst e; exact own_ne ho hc (by decide) e'
  · rw [if_neg hq, if_neg hq, if_neg hq]
    refine (seek_no q w hc h2 hm (by omega)).mono ?_
    rintro e w' ⟨rfl, hb⟩
    exact ⟨rfl, grown_of_below hb _, h0.keep hb⟩

/-- the same where the answers are known -/
theorem byteE {lo hi g p q : Nat} {l : List UInt8} (v c o : Int) (w : World) (h : CuL w lo hi g l p) (hv : byteV l.length p l = v) (hc : tkCode l.length p 1 = c) (ho : tkOff l.length p 1 = o) (hq : p + tkN l.length p 1 = q) :
    Calls Try.prog 38 #[.pointer (some ⟨g, 0, none⟩)] w fun e w' => e = .returned (.tuple #[.int .u8 v, err c o]) ∧ w.grownBy w' (some g) ∧ CuL w' lo hi g l q := by
  subst hv hc ho hq; exact byteL w h
theorem takeE {lo hi g p q k : Nat} {l r : List UInt8} (c o : Int) (m : Int) (w : World) (h : CuL w lo hi g l p) (hk : tkN l.length p m = k) (hc : tkCode l.length p m = c) (ho : tkOff l.length p m = o) (hq : p + k = q) (hr : (l.drop p).take k = r) :
    Calls Try.prog 35 #[.pointer (some ⟨g, 0, none⟩), .int .i64 m] w fun e w' => ∃ A' c', e = .returned (.tuple #[.slice A' k c', err c o]) ∧
      Own w' w.heap.size A' k c' r ∧ w.grownBy w' (some g) ∧ CuL w' lo hi g l q := by
  subst hk hc ho hq hr
  refine (takeL m w h).mono ?_
  rintro e w' ⟨A', c', k, rfl, he, h1, h2, h3⟩
  exact ⟨A', c', he, h1, h2, h3⟩
theorem restE {lo hi g p k : Nat} {l r : List UInt8} (w : World) (h : CuL w lo hi g l p) (hk : l.length - p = k) (hr : l.drop p = r) :
    Calls Try.prog 36 #[.pointer (some ⟨g, 0, none⟩)] w fun e w' => ∃ A' c', e = .returned (.slice A' k c') ∧ Own w' w.heap.size A' k c' r ∧ Below w.heap.size w w' := by
  subst hk hr; exact restL w h
theorem seekE {lo hi g p q : Nat} {l : List UInt8} (c o : Int) (m : Int) (w : World) (h : CuL w lo hi g l p) (hc : skCode l.length m = c) (ho : skOff l.length p m = o) (hq : skPos l.length p m = q) :
    Calls Try.prog 40 #[.pointer (some ⟨g, 0, none⟩), .int .i64 m] w fun e w' => e = .returned (err c o) ∧ w.grownBy w' (some g) ∧ CuL w' lo hi g l q := by
  subst hc ho hq; exact seekL m w h
theorem CuL.hi_ {w : World} {lo hi g p : Nat} {l : List UInt8} (h : CuL w lo hi g l p) : lo ≤ g ∧ g < hi := by
  obtain ⟨A, c, hc, ho, h1, h2, h3⟩ := h
  exact ⟨h1.1, h1.2.1⟩
theorem CuL.allocd {w : World} {lo hi g p : Nat} {l : List UInt8} (h : CuL w lo hi g l p) (o : Obj) : CuL (w.alloc o) lo hi g l p :=
  h.other (grown_alloc (World.grownBy.refl _ none) o) (by intro k e; cases e)
end Go.Proofs.Ytkkgcfllfhkoaaa.Cur
