/- Walks: Unsigned, FromUnsigned, of the package integer. -/
import Derived.Test.YtjdnjmggpomhcaaIntE
set_option linter.unusedSimpArgs false
set_option linter.unusedVariables false
namespace Go.Proofs.Ytjdnjmggpomhcaa.Int4
open Go.RowKit Kit Tlv

theorem bkn {w : World} {b : Nat} {o : Obj} (h : b = w.heap.size) : (w.alloc o).heap[b]? = some o := by subst h; exact heap_alloc_new w o
/-- a slice of the call's own comes back -/
def OwnP (w : World) (u : List UInt8) (e : Ending) (w' : World) : Prop := ∃ A c, e = .returned (.slice A u.length c) ∧ Own w' w.heap.size A u.length c u ∧ Below w.heap.size w w'
theorem OwnP.mk {w w' : World} {u l : List UInt8} {n c : Nat} {A : Option Addr} {e : Ending} (hu : u = l) (hn : l.length = n) (he : e = .returned (.slice A n c)) (ho : Own w' w.heap.size A n c l) (hb : Below w.heap.size w w') : OwnP w u e w' := by
  subst hu hn; exact ⟨A, c, he, ho, hb⟩
/-- the slice from a digit on -/
theorem cut_rd {w : World} {B n : Nat} {A : Option Addr} {l : List UInt8} (h : Rd w B A n l) {k : Nat} (hk : k ≤ n) : Rd w B (A.map (fun x => x.add k)) (n - k) (l.drop k) := by
  have := h.cutMap (k := k) (m := n - k) (by omega)
  rwa [List.take_of_length_le (by rw [List.length_drop, h.len]; exact Nat.le_refl _)] at this

set_option maxHeartbeats 2000000 in
theorem unsigned_any {A : Option Addr} {n c B : Nat} {l : List UInt8} (w : World) (hr : Rd w B A n l) (hB : B ≤ w.heap.size) (hc : n ≤ c) (hm : c ≤ maxLen) (hn : n ≤ 140737488355000) :
    Calls Try.prog 20 #[.slice A n c] w fun e w' => ∃ A' c', e = .returned (.tuple #[.slice A' (unsD l).length c', .int .i64 (unsC l)]) ∧ Own w' w.heap.size A' (unsD l).length c' (unsD l) ∧ Below w.heap.size w w' := by
  have V := Lib.hid (valid_any (c := c) w hr hB)
  have hl := hr.len
  cases hv : validI l with
  | false =>
    obtain ⟨f1, f2⟩ := unsC_bad hv
    rw [f1, f2, List.length_nil]
    rw [hv] at V
    clear hr hv f1 f2 hl
    go_enter Try.func20, Try.ntmps20
    go_wp2_with (go_at_call 31; refine V.out.mono ?_; rintro e w' ⟨rfl, rfl⟩)
    go_ret2
    exact ⟨none, 0, rfl, Own.none_ _ _, (by repeat' (first | (with_reducible exact Below.refl _ _) | (with_reducible assumption) | (with_reducible refine below_drewN ?_ _) | (with_reducible refine Below.drew ?_) | (with_reducible refine Below.alloc ?_ ?_ _) | (with_reducible refine Below.setCell ?_ ?_ _) | go_size))⟩
  | true =>
    have hp := valid_pos hv
    rw [hv] at V
    obtain ⟨ad, rfl, hb, c0, _⟩ := two_at hr (by omega)
    have hb' : ad.block < w.heap.size := by omega
    have x0 := bt_lo l 0
    have x1 := bt_hi l 0
    have hp' : (0 : Int) < (n : Int) := by omega
    by_cases g : 128 ≤ bt l 0
    · obtain ⟨f1, f2⟩ := unsC_neg hv g
      rw [f1, f2, List.length_nil]
      have an := and_hi x0 x1 g
      clear hr hv f1 f2 hl hp
      generalize bt l 0 = x at *
      go_enter Try.func20, Try.ntmps20
      go_wp2_with (go_at_call 31; refine V.out.mono ?_; rintro e w' ⟨rfl, rfl⟩)
      go_ret2
      exact ⟨none, 0, rfl, Own.none_ _ _, (by repeat' (first | (with_reducible exact Below.refl _ _) | (with_reducible assumption) | (with_reducible refine below_drewN ?_ _) | (with_reducible refine Below.drew ?_) | (with_reducible refine Below.alloc ?_ ?_ _) | (with_reducible refine Below.setCell ?_ ?_ _) | go_size))⟩
    · obtain ⟨f1, f2⟩ := unsC_ok hv g
      rw [f1, f2]
      have an := and_lo x0 x1 g
      have T := Lib.hid (trim_any (c := c) w hr hB hc hm)
      have HR := Lib.hid hr
      clear hr hv f1 f2
      generalize bt l 0 = x at *
      go_enter Try.func20, Try.ntmps20
      go_wp2_with fail
      refine V.out.mono ?_
      rintro e w' ⟨rfl, rfl⟩
      go_wp2_with fail
      refine T.out.mono ?_
      rintro e w' ⟨k, rfl, hz, hk, hk2, rfl⟩
      have CL := Lib.hid (Cur.clone_any _ (n - k) (c - k) _ w (cut_rd HR.out hk) (by omega) hB)
      have E := Lib.hid hz
      have L := Lib.hid (show (l.drop k).length = n - k from by rw [List.length_drop, hl])
      clear hz HR
      simp only [Option.map_some] at CL ⊢
      generalize ad.add k = p at *
      go_wp2_with fail
      refine CL.out.mono ?_
      rintro e w1 ⟨A1, c1, rfl, ho, hb1⟩
      go_wp2_with fail
      go_ret2
      rw [E.out]
      refine ⟨A1, c1, ?_, ?_, hb1⟩
      · rw [L.out]; rfl
      · rw [L.out]; exact ho
theorem uns_long {l : List UInt8} (h : (trimZ l).length = 0 ∨ 128 ≤ bt (trimZ l) 0) : unsL l = 0 :: trimZ l := by unfold unsL; rw [if_pos h]
theorem uns_short {l : List UInt8} (h : ¬ ((trimZ l).length = 0 ∨ 128 ≤ bt (trimZ l) 0)) : unsL l = trimZ l := by unfold unsL; rw [if_neg h]

set_option maxHeartbeats 2000000 in
theorem fromuns_any {A : Option Addr} {n c B : Nat} {l : List UInt8} (w : World) (hr : Rd w B A n l) (hB : B ≤ w.heap.size) (hc : n ≤ c) (hm : c ≤ maxLen) (hn : n ≤ 140737488355000) :
    Calls Try.prog 19 #[.slice A n c] w (OwnP w (unsL l)) := by
  have T := Lib.hid (trim_any (c := c) w hr hB hc hm)
  have hl := hr.len
  have HR := Lib.hid hr
  clear hr
  go_enter Try.func19, Try.ntmps19
  go_wp2_with fail
  refine T.out.mono ?_
  rintro e w' ⟨k, rfl, hz, hk, hk2, rfl⟩
  have hr := cut_rd HR.out hk
  obtain ⟨t, ht⟩ : ∃ t, trimZ l = t := ⟨_, rfl⟩
  have UL := Lib.hid (fun h => uns_long (l := l) h)
  have US := Lib.hid (fun h => uns_short (l := l) h)
  rw [ht] at UL US hz
  rw [← hz] at hr
  have htl := hr.len
  generalize unsL l = u at *
  clear T HR hz ht hl
  obtain ⟨m, hm'⟩ : ∃ m, n - k = m := ⟨_, rfl⟩
  obtain ⟨cm, hcm⟩ : ∃ cm, c - k = cm := ⟨_, rfl⟩
  have hmc : m ≤ cm := by omega
  have hmb : m ≤ 140737488355000 := by omega
  rw [hm'] at hr htl ⊢
  rw [hcm]
  generalize A.map (fun x => x.add k) = P at *
  clear hm' hcm hk hk2
  by_cases g : t.length = 0 ∨ 128 ≤ bt t 0
  · have E := Lib.hid (UL.out g)
    clear UL US
    have g' : m = 0 ∨ (1 ≤ m ∧ 128 ≤ bt t 0) := by omega
    have HR := Lib.hid hr
    have fin : ∀ (c' : Nat) (cc : Nat), Calls Try.prog 57 #[.slice (some ⟨w.heap.size + 1, 0, none⟩) 2 cc] ((w.alloc (.cells #[.int .u8 0] 5)).alloc (.cells #[.slice (some ⟨w.heap.size, 0, none⟩) 1 1, .slice P m c'] 22)) fun e w' => ∃ A c, e = .returned (.slice A (1 + m) c) ∧ Own w' ((w.alloc (.cells #[.int .u8 0] 5)).alloc (.cells #[.slice (some ⟨w.heap.size, 0, none⟩) 1 1, .slice P m c'] 22)).heap.size A (1 + m) c ([0] ++ t) ∧ Below ((w.alloc (.cells #[.int .u8 0] 5)).alloc (.cells #[.slice (some ⟨w.heap.size, 0, none⟩) 1 1, .slice P m c'] 22)).heap.size ((w.alloc (.cells #[.int .u8 0] 5)).alloc (.cells #[.slice (some ⟨w.heap.size, 0, none⟩) 1 1, .slice P m c'] 22)) w' := by
      intro c' cc
      have r0 := (Rd.litE w [0] [0] w.heap.size 1 rfl (by decide) (by decide) rfl).alloc (by simp) (.cells #[.slice (some ⟨w.heap.size, 0, none⟩) 1 1, .slice P m c'] 22)
      have r1 := ((HR.out.alloc hB (.cells #[.int .u8 0] 5)).alloc (by simp; omega) (.cells #[.slice (some ⟨w.heap.size, 0, none⟩) 1 1, .slice P m c'] 22)).more (B' := w.heap.size + 1) (by omega)
      exact Cur.concat2_any (cc := cc) (g := w.heap.size + 1) _ (bkn (by simp)) r0 r1 (by simp) (by omega) (by omega)
    have FIN := Lib.hid fin
    have bel2 : ∀ (o o' : Obj), Below w.heap.size w ((w.alloc o).alloc o') := fun o o' => ((Below.refl _ _).alloc (Nat.le_refl _) _).alloc (by simp) _
    have el : (0 :: t).length = 1 + m := by rw [List.length_cons, htl]; omega
    have EL := Lib.hid el
    clear fin el
    rcases g' with g0 | ⟨g0, g1⟩
    · subst g0
      clear hr g
      go_wp2_with (go_at_call 57; refine (FIN.out _ _).mono ?_; rintro e w1 ⟨A1, c1, rfl, ho, hb1⟩)
      go_ret
      exact OwnP.mk E.out EL.out rfl (ho.mono (by simp; omega)) ((bel2 _ _).trans (hb1.mono (by simp; omega)))
    · obtain ⟨p, rfl, hb, c0, _⟩ := two_at hr g0
      have hb' : p.block < w.heap.size := by omega
      have an := and_hi (bt_lo t 0) (bt_hi t 0) g1
      have g0' : ((m : Int) == 0) = false := by rw [beq_eq_false_iff_ne]; omega
      have g2 : (0 : Int) < (m : Int) := by omega
      clear hr g g1
      generalize bt t 0 = x at *
      go_wp2_with (go_at_call 57; refine (FIN.out _ _).mono ?_; rintro e w1 ⟨A1, c1, rfl, ho, hb1⟩)
      go_ret
      exact OwnP.mk E.out EL.out rfl (ho.mono (by simp; omega)) ((bel2 _ _).trans (hb1.mono (by simp; omega)))
  · have E := Lib.hid (US.out g)
    clear UL US
    obtain ⟨p, rfl, hb, c0, _⟩ := two_at hr (by omega)
    have hb' : p.block < w.heap.size := by omega
    have an := and_lo (bt_lo t 0) (bt_hi t 0) (by omega)
    have g0' : ((m : Int) == 0) = false := by rw [beq_eq_false_iff_ne]; omega
    have g2 : (0 : Int) < (m : Int) := by omega
    have CL := Lib.hid (fun c' => Cur.clone_any _ m c' _ w hr (by omega) hB)
    have EL := Lib.hid htl
    clear hr g htl
    generalize bt t 0 = x at *
    go_wp2_with (go_at_call 58; refine (CL.out _).mono ?_; rintro e w1 ⟨A1, c1, rfl, ho, hb1⟩)
    go_ret
    exact OwnP.mk E.out EL.out rfl ho hb1
end Go.Proofs.Ytjdnjmggpomhcaa.Int4
