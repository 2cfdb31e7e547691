/- Walks: FromUnsigned of the reference, its result a piece of the call's own block (it may be written). -/
import Derived.Test.YtiogcdpmgomllaaDecC
import Derived.Test.YtiogcdpmgomllaaSeg
set_option linter.unusedSimpArgs false
set_option linter.unusedVariables false
namespace Go.Proofs.Ytiogcdpmgomllaa.Int4
open Go.RowKit Kit Tlv Cur

/-- a piece of a block of the call's own comes back -/
def SegP (w : World) (u : List UInt8) (e : Ending) (w' : World) : Prop := ∃ g off c, e = .returned (.slice (some ⟨g, off, none⟩) u.length c) ∧ Seg w' w.heap.size g off u.length u ∧ u.length ≤ c ∧ c ≤ maxLen ∧ Below w.heap.size w w'
theorem SegP.mk {w w' : World} {u l : List UInt8} {g off n c : Nat} (hu : u = l) (hr : Seg w' w.heap.size g off n l) (hc : n ≤ c) (hm : c ≤ maxLen) (hb : Below w.heap.size w w') : SegP w u (.returned (.slice (some ⟨g, off, none⟩) n c)) w' := by
  have hl := hr.len
  subst hu hl; exact ⟨g, off, c, rfl, hr, hc, hm, hb⟩
/-- the pieces of a loop that cuts off what is too many -/
def CutG (w : World) (base : Nat) (u : List UInt8) (g off m cm : Nat) : Prop := ∃ l, Seg w base g off m l ∧ trimI l = u ∧ 1 ≤ m ∧ m ≤ cm ∧ cm ≤ maxLen

set_option maxHeartbeats 2000000 in
theorem reffromunsS_any {A : Option Addr} {n c B : Nat} {l : List UInt8} (w : World) (hr : Rd w B A n l) (hB : B ≤ w.heap.size) (hn : n ≤ 140737488355000) :
    Calls Try.prog 24 #[.slice A n c] w (SegP w (unsL l)) := by
  have ow := Own.lit (base := w.heap.size) w [0] (Nat.le_refl _) (by simp [maxLen])
  have q' := hr.alloc hB (.cells (vs [0]).toArray 5)
  have hba : Below w.heap.size w (w.alloc (.cells (vs [0]).toArray 5)) := (Below.refl _ _).alloc (Nat.le_refl _) _
  have U := Lib.hid (uns_trim l)
  generalize unsL l = u at *
  clear hr
  go_enter Try.func24, Try.ntmps24
  go_upto_region 2 with (first | (at_builtin; refine app rfl (.tmp 4) (.tmp 5) rfl rfl ow rfl q' (by first | omega | (simp; omega)) (by simp) ?_; intro A4 c4 w4 ho4 hg4 hb4 hs4; (try simp only [List.length_cons, List.length_nil, Nat.zero_add] at ho4); replace ho4 : Own w4 w.heap.size A4 (1 + n) c4 (0 :: l) := ho4))
  have bel := hba.trans hb4
  have hc4 := ho4.cap
  have hm4 := ho4.capMax
  obtain ⟨g0, rfl⟩ := ho4.shape (by omega)
  have C0 : CutG w4 w.heap.size u g0 0 (1 + n) c4 := ⟨_, ho4.seg, U.out, by omega, hc4, hm4⟩
  clear ow q' hba hb4 hg4 hs4 ho4 hc4 hm4 U
  go_wp2
  go_loop [3] (fun b => ∃ (g off m cm : Nat), b = .slice (some ⟨g, off, none⟩) m cm ∧ CutG w4 w.heap.size u g off m cm) (fun b => match b with | .slice _ m _ => m | _ => 0)
  case atStart => exact ⟨_, _, _, _, rfl, C0⟩
  case round =>
    clear C0
    obtain ⟨g, off, m, cm, rfl, l', hr, ht, h1, hc, hm⟩ := hrel
    have V := Lib.hid (refvalid_any (c := cm) w4 hr.rd (Nat.le_refl _))
    have HT := Lib.hid ht
    have hl := Lib.hid hr.len
    unfold maxLen at hm
    by_cases hm1 : 1 < m
    · cases hv : validI l' with
      | false =>
        have R' := Lib.hid (show CutG w4 w.heap.size u g (off + 1) (m - 1) (cm - 1) from
          ⟨l'.drop 1, hr.drop h1, by rw [← trim_go (by rw [hl.out]; omega) hv]; exact ht, by omega, by omega, by unfold maxLen; omega⟩)
        rw [hv] at V
        have hcm : ¬ cm = 1 := by omega
        have hcm1 : (1 : Int) ≤ (cm : Int) := by omega
        have hm1' : (1 : Int) ≤ (m : Int) := by omega
        clear hr hv ht HT
        go_wp2_with (go_at_call 10; refine V.out.mono ?_; rintro e w' ⟨rfl, rfl⟩)
        go_round
        case rel => exact ⟨_, _, _, _, rfl, R'.out⟩
        case measure => show m - 1 < m; omega
      | true =>
        have E := Lib.hid (show u = l' from by rw [← ht]; exact trim_stop (by rw [hv]; simp))
        have HR := Lib.hid hr
        rw [hv] at V
        clear hr hv ht HT
        go_wp2_with (go_at_call 10; refine V.out.mono ?_; rintro e w' ⟨rfl, rfl⟩)
        go_ret
        exact SegP.mk E.out HR.out hc (by unfold maxLen; omega) bel
    · have E := Lib.hid (show u = l' from by rw [← ht]; exact trim_stop (by rw [hl.out]; omega))
      have HR := Lib.hid hr
      clear hr ht HT
      go_wp2
      go_ret
      exact SegP.mk E.out HR.out hc (by unfold maxLen; omega) bel
end Go.Proofs.Ytiogcdpmgomllaa.Int4
