/- Walks: plus of the reference of integers. -/
import Derived.Test.YtiogcdpmgomllaaPlDecB
import Derived.Test.YtiogcdpmgomllaaIntJ
import Derived.Test.YtiogcdpmgomllaaIntH
import Derived.Test.YtiogcdpmgomllaaLit
set_option linter.unusedSimpArgs false
set_option linter.unusedVariables false
namespace Go.Proofs.Ytiogcdpmgomllaa.Int4
open Go.RowKit Kit Tlv

/-- digits with a number added, in a call's own bytes -/
def PluP (w : World) (l : List UInt8) (x : Int) (e : Ending) (w' : World) : Prop :=
  ∃ (u : List UInt8) (A : Option Addr) (c : Nat), e = .returned (.slice A u.length c) ∧ Own w' w.heap.size A u.length c u ∧ Below w.heap.size w w' ∧ beI u = beI l + x ∧ l.length ≤ u.length ∧ u.length ≤ l.length + 1 ∧ (u.length = l.length ∨ pw l.length ≤ beI u)
theorem PluP.mk {w w' : World} {l u m : List UInt8} {x : Int} {A : Option Addr} {k c : Nat} (hu : m = u) (hk : u.length = k) (ho : Own w' w.heap.size A k c m) (hb : Below w.heap.size w w') (h1 : beI u = beI l + x) (h2 : l.length ≤ u.length) (h3 : u.length ≤ l.length + 1) (h4 : u.length = l.length ∨ pw l.length ≤ beI u) :
    PluP w l x (.returned (.slice A k c)) w' := by
  subst hu hk
  exact ⟨m, A, c, rfl, ho, hb, h1, h2, h3, h4⟩

set_option maxRecDepth 100000 in
set_option maxHeartbeats 4000000 in
theorem plus_any {A : Option Addr} {n c B : Nat} {l : List UInt8} (x : Int) (w : World) (hr : Rd w B A n l) (hB : B ≤ w.heap.size) (hn : n ≤ 1000000) (hp : 1 ≤ n) (hx0 : 0 ≤ x) (hx1 : x ≤ 255) :
    Calls Try.prog 23 #[.slice A n c, .int .i64 x] w (PluP w l x) := by
  have hl := hr.len
  have R0 := Lib.hid (show AddR l l n x x from by have := AddR.start l x hx0; rwa [hl] at this)
  have ST := Lib.hid (fun j m cy (h : AddR l m (j + 1) x cy) (hj : j < n) => And.intro (AddR.at_ h (by omega)) (AddR.step h (by omega)))
  have EN := Lib.hid (fun m cy (h : AddR l m 0 x cy) => AddR.stop h)
  have ow0 : Own (w.alloc (.cells #[] 5)) w.heap.size (some ⟨w.heap.size, 0, none⟩) 0 0 [] := by
    have h := Own.lit (base := w.heap.size) w [] (Nat.le_refl _) (Nat.zero_le _)
    simpa [vs] using h
  have rc0 := hr.alloc hB (.cells #[] 5)
  have HL := Lib.hid hl
  clear hr
  go_enter Try.func23, Try.ntmps23
  go_wp2_with (first | (at_builtin; go_must (refine app rfl (.tmp 7) (.tmp 8) rfl rfl ow0 rfl rc0 (by first | omega | (simp; omega) | simp) (by first | omega | (simp; omega) | simp) ?_); intro A5 c5 w1 ho1 hg1 hb1 hs1))
  simp only [List.length_nil, Nat.zero_add, List.nil_append] at ho1
  have hx : Below w.heap.size w w1 := ((Below.refl _ _).alloc (Nat.le_refl _) (.cells #[] 5)).trans hb1
  have OW := Lib.hid ho1
  have BE := Lib.hid hx
  clear ow0 rc0 hg1 hb1 hs1 ho1 hx hl
  go_wp2_with fail
  go_loopw [1, 6] (fun cy i wr => ∃ (j : Nat) (m : List UInt8) (y : Int), j ≤ n ∧ i = .int .i64 ((j : Int) - 1) ∧ cy = .int .i64 y ∧ Own wr w.heap.size A5 n c5 m ∧ Below w.heap.size w wr ∧ Hid (AddR l m j x y) ∧ 0 ≤ y ∧ y ≤ 255)
    (fun _ i _ => (intOf i + 1).toNat)
  case atStart => exact ⟨n, l, x, Nat.le_refl _, rfl, rfl, OW.out, BE.out, R0, hx0, hx1⟩
  case round =>
    obtain ⟨j, m, y, hj, rfl, rfl, ho, hbe, hN, y0, y1⟩ := hrel
    clear OW BE R0
    by_cases h0 : 1 ≤ j
    · obtain ⟨i, rfl⟩ : ∃ i, j = i + 1 := ⟨j - 1, by omega⟩
      obtain ⟨ha, hst⟩ := ST.out _ _ _ hN.out (by omega)
      obtain ⟨g, rfl⟩ := ho.shape (by omega)
      have hge := Own.lt ho
      have cc := ho.cellAt (k := i) (by omega)
      have ff := ho.frozenAt i
      have b0 := bt_lo m i
      have b1 := bt_hi m i
      rw [← ha] at hst
      have HST := Lib.hid hst
      have hs := Lib.hid (fun x h0 h1 => ho.stored i (x := x) h0 h1)
      have hbs := Lib.hid (fun u => Below.setCell hbe (p := ⟨g, i, none⟩) hge.1 u)
      have e1 : ((i + 1 : Nat) : Int) - 1 = (i : Int) := by omega
      have hni : (i : Int) < (n : Int) := by omega
      rw [e1]
      generalize bt m i = b at *
      have z0 : 0 ≤ (y + b) % 256 := by omega
      have z1 : (y + b) % 256 ≤ 255 := by omega
      have q0 : 0 ≤ (y + b) / 256 := by omega
      have q1 : (y + b) / 256 ≤ 255 := by omega
      clear hN ha hst ho hbe
      go_wp2
      go_roundw
      case rel => exact ⟨i, _, _, by omega, rfl, rfl, hs.out _ z0 z1, hbs.out _, HST, q0, q1⟩
      case measure => simp [intOf]
    · obtain rfl : j = 0 := by omega
      obtain ⟨e1, e2, -⟩ := EN.out _ _ hN.out
      have hln := HL.out
      have LM := Lib.hid e1
      have EQ := Lib.hid e2
      have BE := Lib.hid hbe
      have OW := Lib.hid ho
      clear hN ST EN ho hbe e1 e2 HL
      by_cases hy : 0 < y
      · have zs := BE.out.size
        have L1 := lit1' (base := w.heap.size) wr y (by omega) y1 zs
        have rm := (OW.out.rd).alloc (Nat.le_refl _) (.cells #[.int .u8 y] 5)
        go_wp2_with (first | (at_builtin; go_must (refine app rfl (.tmp 36) (.tmp 37) rfl rfl L1 rfl rm (by first | omega | (simp; omega) | simp) (by first | omega | (simp; omega) | simp) ?_); intro A6 c6 w2 ho2 hg2 hb2 hs2))
        go_ret
        refine PluP.mk (u := ofI y :: m) rfl ?_ ho2 ?_ ?_ ?_ ?_ ?_
        · simp only [List.length_cons]; have := LM.out; omega
        · exact (BE.out.alloc zs _).trans hb2
        · rw [beI_cons, ofI_toNat (by omega) y1]
          have h1 := EQ.out
          have h2 := LM.out
          rw [h2]
          omega
        · simp only [List.length_cons]; have := LM.out; omega
        · simp only [List.length_cons]; have := LM.out; omega
        · right
          have h2 := LM.out
          rw [beI_cons, ofI_toNat (by omega) y1, h2]
          have h3 := (beI_bd m).1
          have h4 : 1 * pw l.length ≤ y * pw l.length := Int.mul_le_mul_of_nonneg_right (by omega) (by have := pw_pos l.length; omega)
          omega
      · obtain rfl : y = 0 := by omega
        go_wp2
        go_ret
        refine PluP.mk (u := m) rfl (by have := LM.out; omega) OW.out BE.out ?_ (by have := LM.out; omega) (by have := LM.out; omega) (.inl LM.out)
        have h1 := EQ.out
        omega
end Go.Proofs.Ytiogcdpmgomllaa.Int4
