/- Walks: Unsigned, FromUnsigned, of the package integer. -/
import Derived.Test.YtiogcdpmgomllaaIntE
set_option linter.unusedSimpArgs false
set_option linter.unusedVariables false
namespace Go.Proofs.Ytiogcdpmgomllaa.Int4
open Go.RowKit Kit Tlv

theorem bkn {w : World} {b : Nat} {o : Obj} (h : b = w.heap.size) : (w.alloc o).heap[b]? = some o := by subst h; exact heap_alloc_new w o
/-- a slice of the call's own comes back -/
def OwnP (w : World) (u : List UInt8) (e : Ending) (w' : World) : Prop := ∃ A c, e = .returned (.slice A u.length c) ∧ Own w' w.heap.size A u.length c u ∧ Below w.heap.size w w'
theorem OwnP.mk {w w' : World} {u l : List UInt8} {n c : Nat} {A : Option Addr} {e : Ending} (hu : u = l) (hn : l.length = n) (he : e = .returned (.slice A n c)) (ho : Own w' w.heap.size A n c l) (hb : Below w.heap.size w w') : OwnP w u e w' := by
  subst hu hn; exact ⟨A, c, he, ho, hb⟩
/-- the slice from a digit on -/
theorem cut_rd {w : World} {B n : Nat} {A : Option Addr} {l : List UInt8} (h : Rd w B A n l) {k : Nat} (hk : k ≤ n) : Rd w B (A.map (fun x => x.add k)) (n - k) (l.drop k) := by
  have := h.cutMap (k := k) (m := n - k) (by omega)
  rwa [List.take_of_length_le (by rw [List.length_drop, h.len]; exact Nat.le_refl _)] at this

theorem uns_long {l : List UInt8} (h : (trimZ l).length = 0 ∨ 128 ≤ bt (trimZ l) 0) : unsL l = 0 :: trimZ l := by unfold unsL; rw [if_pos h]
theorem uns_short {l : List UInt8} (h : ¬ ((trimZ l).length = 0 ∨ 128 ≤ bt (trimZ l) 0)) : unsL l = trimZ l := by unfold unsL; rw [if_neg h]

set_option maxHeartbeats 2000000 in
theorem fromuns_any {A : Option Addr} {n c B : Nat} {l : List UInt8} (w : World) (hr : Rd w B A n l) (hB : B ≤ w.heap.size) (hc : n ≤ c) (hm : c ≤ maxLen) (hn : n ≤ 140737488355000) :
    Calls Try.prog 15 #[.slice A n c] w (OwnP w (unsL l)) := by
  have T := Lib.hid (trim_any (c := c) w hr hB hc hm)
  have hl := hr.len
  have HR := Lib.hid hr
  clear hr
  go_enter Try.func15, Try.ntmps15
  go_wp2_with fail
  refine T.out.mono ?_
  rintro e w' ⟨k, rfl, hz, hk, hk2, rfl⟩
  have hr := cut_rd HR.out hk
  obtain ⟨t, ht⟩ : ∃ t, trimZ l = t := ⟨_, rfl⟩
  have UL := Lib.hid (fun h => uns_long (l := l) h)
  have US := Lib.hid (fun h => uns_short (l := l) h)
  rw [ht] at UL US hz
  rw [← hz] at hr
  have htl := hr.len
  generalize unsL l = u at *
  clear T HR hz ht hl
  obtain ⟨m, hm'⟩ : ∃ m, n - k = m := ⟨_, rfl⟩
  obtain ⟨cm, hcm⟩ : ∃ cm, c - k = cm := ⟨_, rfl⟩
  have hmc : m ≤ cm := by omega
  have hmb : m ≤ 140737488355000 := by omega
  rw [hm'] at hr htl ⊢
  rw [hcm]
  generalize A.map (fun x => x.add k) = P at *
  clear hm' hcm hk hk2
  by_cases g : t.length = 0 ∨ 128 ≤ bt t 0
  · have E := Lib.hid (UL.out g)
    clear UL US
    have g' : m = 0 ∨ (1 ≤ m ∧ 128 ≤ bt t 0) := by omega
    have HR := Lib.hid hr
    have fin : ∀ (c' : Nat) (cc : Nat), Calls Try.prog 27 #[.slice (some ⟨w.heap.size + 1, 0, none⟩) 2 cc] ((w.alloc (.cells #[.int .u8 0] 5)).alloc (.cells #[.slice (some ⟨w.heap.size, 0, none⟩) 1 1, .slice P m c'] 22)) fun e w' => ∃ A c, e = .returned (.slice A (1 + m) c) ∧ Own w' ((w.alloc (.cells #[.int .u8 0] 5)).alloc (.cells #[.slice (some ⟨w.heap.size, 0, none⟩) 1 1, .slice P m c'] 22)).heap.size A (1 + m) c ([0] ++ t) ∧ Below ((w.alloc (.cells #[.int .u8 0] 5)).alloc (.cells #[.slice (some ⟨w.heap.size, 0, none⟩) 1 1, .slice P m c'] 22)).heap.size ((w.alloc (.cells #[.int .u8 0] 5)).alloc (.cells #[.slice (some ⟨w.heap.size, 0, none⟩) 1 1, .slice P m c'] 22)) w' := by
      intro c' cc
      have r0 := (Rd.litE w [0] [0] w.heap.size 1 rfl (by decide) (by decide) rfl).alloc (by simp) (.cells #[.slice (some ⟨w.heap.size, 0, none⟩) 1 1, .slice P m c'] 22)
      have r1 := ((HR.out.alloc hB (.cells #[.int .u8 0] 5)).alloc (by simp; omega) (.cells #[.slice (some ⟨w.heap.size, 0, none⟩) 1 1, .slice P m c'] 22)).more (B' := w.heap.size + 1) (by omega)
      exact Cur.concat2_any (cc := cc) (g := w.heap.size + 1) _ (bkn (by simp)) r0 r1 (by simp) (by omega) (by omega)
    have FIN := Lib.hid fin
    have bel2 : ∀ (o o' : Obj), Below w.heap.size w ((w.alloc o).alloc o') := fun o o' => ((Below.refl _ _).alloc (Nat.le_refl _) _).alloc (by simp) _
    have el : (0 :: t).length = 1 + m := by rw [List.length_cons, htl]; omega
    have EL := Lib.hid el
    clear fin el
    rcases g' with g0 | ⟨g0, g1⟩
    · subst g0
      clear hr g
      go_wp2_with (go_at_call 27; refine (FIN.out _ _).mono ?_; rintro e w1 ⟨A1, c1, rfl, ho, hb1⟩)
      go_ret
      exact OwnP.mk E.out EL.out rfl (ho.mono (by simp; omega)) ((bel2 _ _).trans (hb1.mono (by simp; omega)))
    · obtain ⟨p, rfl, hb, c0, _⟩ := two_at hr g0
      have hb' : p.block < w.heap.size := by omega
      have an := and_hi (bt_lo t 0) (bt_hi t 0) g1
      have g0' : ((m : Int) == 0) = false := by rw [beq_eq_false_iff_ne]; omega
      have g2 : (0 : Int) < (m : Int) := by omega
      clear hr g g1
      generalize bt t 0 = x at *
      go_wp2_with (go_at_call 27; refine (FIN.out _ _).mono ?_; rintro e w1 ⟨A1, c1, rfl, ho, hb1⟩)
      go_ret
      exact OwnP.mk E.out EL.out rfl (ho.mono (by simp; omega)) ((bel2 _ _).trans (hb1.mono (by simp; omega)))
  · have E := Lib.hid (US.out g)
    clear UL US
    obtain ⟨p, rfl, hb, c0, _⟩ := two_at hr (by omega)
    have hb' : p.block < w.heap.size := by omega
    have an := and_lo (bt_lo t 0) (bt_hi t 0) (by omega)
    have g0' : ((m : Int) == 0) = false := by rw [beq_eq_false_iff_ne]; omega
    have g2 : (0 : Int) < (m : Int) := by omega
    have CL := Lib.hid (fun c' => Cur.clone_any _ m c' _ w hr (by omega) hB)
    have EL := Lib.hid htl
    clear hr g htl
    generalize bt t 0 = x at *
    go_wp2_with (go_at_call 16; refine (CL.out _).mono ?_; rintro e w1 ⟨A1, c1, rfl, ho, hb1⟩)
    go_ret
    exact OwnP.mk E.out EL.out rfl ho hb1
end Go.Proofs.Ytiogcdpmgomllaa.Int4
