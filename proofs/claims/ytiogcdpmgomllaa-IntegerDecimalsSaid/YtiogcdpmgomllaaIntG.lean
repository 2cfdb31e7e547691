/- Walks: FromUnsigned and Unsigned of the reference; FromInt, of both. -/
import Derived.Test.YtiogcdpmgomllaaIntF
import Derived.Test.YtiogcdpmgomllaaIntC
import Derived.Deep.CutRange
import Derived.WalkMore
set_option linter.unusedSimpArgs false
set_option linter.unusedVariables false
namespace Go.Proofs.Ytiogcdpmgomllaa.Int4
open Go.RowKit Kit Tlv

/-- b[1:] -/
theorem tail1 {w : World} {B n c : Nat} {ad : Addr} {l : List UInt8} (h : Rd w B (some ad) n l) (hn : 1 ≤ n) (hc : n ≤ c) (hc1 : ¬ c = 1) : Rd w B (some ⟨ad.block, ad.off + 1, none⟩) (n - 1) (l.drop 1) := by
  have hr := h.cut (k := 1) (m := n) (cap := c) hn (Nat.le_refl _) hc
  rw [List.take_of_length_le (by rw [List.length_drop, h.len]; exact Nat.le_refl _), if_neg hc1] at hr
  rw [← add_one']; exact hr
/-- a slice comes back that can be read -/
def RdP (w : World) (u : List UInt8) (e : Ending) (w' : World) : Prop := ∃ A c, e = .returned (.slice A u.length c) ∧ Rd w' w'.heap.size A u.length u ∧ u.length ≤ c ∧ c ≤ maxLen ∧ Below w.heap.size w w'
theorem RdP.mk {w w' : World} {u l : List UInt8} {B n c : Nat} {A : Option Addr} {e : Ending} (hu : u = l) (he : e = .returned (.slice A n c)) (hr : Rd w' B A n l) (hB : B ≤ w'.heap.size) (hc : n ≤ c) (hm : c ≤ maxLen) (hb : Below w.heap.size w w') : RdP w u e w' := by
  have hl := hr.len
  subst hu hl; exact ⟨A, c, he, hr.more hB, hc, hm, hb⟩
/-- the pieces of a loop that cuts off what is too many -/
def Cut (w : World) (B : Nat) (u : List UInt8) (p : Addr) (m cm : Nat) : Prop := ∃ l, Rd w B (some p) m l ∧ trimI l = u ∧ 1 ≤ m ∧ m ≤ cm ∧ cm ≤ maxLen

set_option maxHeartbeats 2000000 in
theorem reffromuns_any {A : Option Addr} {n c B : Nat} {l : List UInt8} (w : World) (hr : Rd w B A n l) (hB : B ≤ w.heap.size) (hn : n ≤ 140737488355000) :
    Calls Try.prog 24 #[.slice A n c] w (RdP w (unsL l)) := by
  have ow := Own.lit (base := w.heap.size) w [0] (Nat.le_refl _) (by simp [maxLen])
  have q' := hr.alloc hB (.cells (vs [0]).toArray 5)
  have hba : Below w.heap.size w (w.alloc (.cells (vs [0]).toArray 5)) := (Below.refl _ _).alloc (Nat.le_refl _) _
  have U := Lib.hid (uns_trim l)
  generalize unsL l = u at *
  clear hr
  go_enter Try.func24, Try.ntmps24
  go_upto_region 2 with (first | (at_builtin; refine app rfl (.tmp 4) (.tmp 5) rfl rfl ow rfl q' (by first | omega | (simp; omega)) (by simp) ?_; intro A4 c4 w4 ho4 hg4 hb4 hs4; (try simp only [List.length_cons, List.length_nil, Nat.zero_add] at ho4); replace ho4 : Own w4 w.heap.size A4 (1 + n) c4 (0 :: l) := ho4))
  have bel := hba.trans hb4
  have hc4 := ho4.cap
  have hm4 := ho4.capMax
  have r4 := ho4.rd
  obtain ⟨g, rfl⟩ := ho4.shape (by omega)
  have C0 : Cut w4 w4.heap.size u ⟨g, 0, none⟩ (1 + n) c4 := ⟨_, r4, U.out, by omega, hc4, hm4⟩
  clear ow q' hba hb4 hg4 hs4 ho4 hc4 hm4 r4 U
  go_wp2
  go_loop [3] (fun b => ∃ (p : Addr) (m cm : Nat), b = .slice (some p) m cm ∧ Cut w4 w4.heap.size u p m cm) (fun b => match b with | .slice _ m _ => m | _ => 0)
  case atStart => exact ⟨_, _, _, rfl, C0⟩
  case round =>
    clear C0
    obtain ⟨p, m, cm, rfl, l', hr, ht, h1, hc, hm⟩ := hrel
    have V := Lib.hid (refvalid_any (c := cm) w4 hr (Nat.le_refl _))
    have HT := Lib.hid ht
    have hl := Lib.hid hr.len
    unfold maxLen at hm
    by_cases hm1 : 1 < m
    · cases hv : validI l' with
      | false =>
        have R' := Lib.hid (show Cut w4 w4.heap.size u ⟨p.block, p.off + 1, none⟩ (m - 1) (cm - 1) from
          ⟨l'.drop 1, tail1 hr h1 hc (by omega), by rw [← trim_go (by rw [hl.out]; omega) hv]; exact ht, by omega, by omega, by unfold maxLen; omega⟩)
        rw [hv] at V
        have hcm : ¬ cm = 1 := by omega
        have hcm1 : (1 : Int) ≤ (cm : Int) := by omega
        have hm1' : (1 : Int) ≤ (m : Int) := by omega
        clear hr hv ht HT
        go_wp2_with (go_at_call 10; refine V.out.mono ?_; rintro e w' ⟨rfl, rfl⟩)
        go_round
        case rel => exact ⟨_, _, _, rfl, R'.out⟩
        case measure => show m - 1 < m; omega
      | true =>
        have E := Lib.hid (show u = l' from by rw [← ht]; exact trim_stop (by rw [hv]; simp))
        have HR := Lib.hid hr
        rw [hv] at V
        clear hr hv ht HT
        go_wp2_with (go_at_call 10; refine V.out.mono ?_; rintro e w' ⟨rfl, rfl⟩)
        go_ret
        exact RdP.mk E.out rfl HR.out (Nat.le_refl _) hc (by unfold maxLen; omega) bel
    · have E := Lib.hid (show u = l' from by rw [← ht]; exact trim_stop (by rw [hl.out]; omega))
      have HR := Lib.hid hr
      clear hr ht HT
      go_wp2
      go_ret
      exact RdP.mk E.out rfl HR.out (Nat.le_refl _) hc (by unfold maxLen; omega) bel

/-- what the reference's Unsigned returns: its slice lies in the argument -/
def UnsR (B : Nat) (l : List UInt8) (w : World) (e : Ending) (w' : World) : Prop :=
  ∃ A c, e = .returned (.tuple #[.slice A (unsD l).length c, .int .i64 (unsC l)]) ∧ Rd w B A (unsD l).length (unsD l) ∧ w = w'
theorem sign_lt {l : List UInt8} (hv : validI l = true) : signI l < 0 ↔ 128 ≤ bt l 0 := by
  unfold signI
  rw [if_neg (by simp [hv])]
  by_cases g : l.length = 1 ∧ bt l 0 = 0
  · rw [if_pos g]; omega
  · rw [if_neg g]; split <;> omega

end Go.Proofs.Ytiogcdpmgomllaa.Int4
