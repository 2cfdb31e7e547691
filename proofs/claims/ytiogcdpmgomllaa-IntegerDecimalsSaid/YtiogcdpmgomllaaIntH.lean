/- Walks: FromInt, of the package integer and of its reference. -/
import Derived.Test.YtiogcdpmgomllaaIntG
set_option linter.unusedSimpArgs false
set_option linter.unusedVariables false
namespace Go.Proofs.Ytiogcdpmgomllaa.Int4
open Go.RowKit Kit Tlv

theorem lit1' {base : Nat} (w : World) (x : Int) (h0 : 0 ≤ x) (h1 : x ≤ 255) (hb : base ≤ w.heap.size) :
    Own (w.alloc (.cells #[.int .u8 x] 5)) base (some ⟨w.heap.size, 0, none⟩) 1 1 [ofI x] := by
  have h := Own.lit (base := base) w [ofI x] hb (by simp [maxLen])
  rw [show vs [ofI x] = [x].map (Value.int .u8) from vs_ofI [x] (in1 h0 h1)] at h
  exact h



/-- eight octets, as the walk reckons them -/
def b8' (n : Int) : List UInt8 := [ofI (n / 72057594037927936 % 256), ofI (n / 281474976710656 % 256), ofI (n / 1099511627776 % 256), ofI (n / 4294967296 % 256), ofI (n / 16777216 % 256), ofI (n / 65536 % 256), ofI (n / 256 % 256), ofI (n % 256)]
theorem b8_eq (n : Int) : b8' n = b8 n := by
  unfold b8' b8
  rw [dv_7, dv_6, dv_5, dv_4, dv_3, dv_2, dv_1]
  rfl

set_option maxHeartbeats 4000000 in
theorem fromint_any (n : Int) (w : World) (h0 : -9223372036854775808 ≤ n) (h1 : n ≤ 9223372036854775807) : Calls Try.prog 13 #[.int .i64 n] w (RdP w (intL n)) := by
  have U := Lib.hid (show trimI (b8' n) = intL n from by rw [b8_eq]; exact b8_trim h0 h1)
  generalize intL n = u at *
  have D := Lib.hid (fun (d : Int) => And.intro (show 0 ≤ d % 256 from by omega) (show d % 256 ≤ 255 from by omega))
  go_enter Try.func13, Try.ntmps13
  go_wp2
  go_loopw [3, 4] (fun o i wr => ∃ (j : Nat) (A : Option Addr) (c : Nat) (l : List UInt8) (d : Int), i = .int .i64 d ∧ o = .slice A j c ∧ Own wr w.heap.size A j c l ∧ Below w.heap.size w wr ∧
    Hid ((j = 0 ∧ d = 56 ∧ l = []) ∨ (j = 1 ∧ d = 48 ∧ l = (b8' n).take 1) ∨ (j = 2 ∧ d = 40 ∧ l = (b8' n).take 2) ∨ (j = 3 ∧ d = 32 ∧ l = (b8' n).take 3) ∨ (j = 4 ∧ d = 24 ∧ l = (b8' n).take 4) ∨
      (j = 5 ∧ d = 16 ∧ l = (b8' n).take 5) ∨ (j = 6 ∧ d = 8 ∧ l = (b8' n).take 6) ∨ (j = 7 ∧ d = 0 ∧ l = (b8' n).take 7) ∨ (j = 8 ∧ d = -8 ∧ l = b8' n))) (fun _ i _ => (intOf i + 8).toNat)
  case atStart => exact ⟨0, none, 0, [], 56, rfl, rfl, Own.none_ _ _, Below.refl _ _, Lib.hid (.inl ⟨rfl, rfl, rfl⟩)⟩
  case round =>
    obtain ⟨j, A, c, l, d, rfl, rfl, ho, hb, hk⟩ := hrel
    have zb := hb.size
    rcases hk.out with ⟨rfl, rfl, rfl⟩ | ⟨rfl, rfl, rfl⟩ | ⟨rfl, rfl, rfl⟩ | ⟨rfl, rfl, rfl⟩ | ⟨rfl, rfl, rfl⟩ | ⟨rfl, rfl, rfl⟩ | ⟨rfl, rfl, rfl⟩ | ⟨rfl, rfl, rfl⟩ | ⟨rfl, rfl, rfl⟩
    · obtain ⟨x0, x1⟩ := D.out (n / 72057594037927936)
      clear hk U D
      go_wp2_with (first | (at_builtin; refine appL [n / 72057594037927936 % 256] rfl (.tmp 9) (.tmp 14) rfl rfl ho rfl (in1 x0 x1) (by simp) zb ?_; intro A' c' w' ho' hg' hb' hs'))
      go_roundw
      case rel => exact ⟨1, A', c', _, 48, rfl, rfl, ho', hb.trans hb', Lib.hid (.inr (.inl ⟨rfl, rfl, rfl⟩))⟩
      case measure => simp [intOf]
    · obtain ⟨x0, x1⟩ := D.out (n / 281474976710656)
      clear hk U D
      go_wp2_with (first | (at_builtin; refine appL [n / 281474976710656 % 256] rfl (.tmp 9) (.tmp 14) rfl rfl ho rfl (in1 x0 x1) (by simp) zb ?_; intro A' c' w' ho' hg' hb' hs'))
      go_roundw
      case rel => exact ⟨2, A', c', _, 40, rfl, rfl, ho', hb.trans hb', Lib.hid (.inr (.inr (.inl ⟨rfl, rfl, rfl⟩)))⟩
      case measure => simp [intOf]
    · obtain ⟨x0, x1⟩ := D.out (n / 1099511627776)
      clear hk U D
      go_wp2_with (first | (at_builtin; refine appL [n / 1099511627776 % 256] rfl (.tmp 9) (.tmp 14) rfl rfl ho rfl (in1 x0 x1) (by simp) zb ?_; intro A' c' w' ho' hg' hb' hs'))
      go_roundw
      case rel => exact ⟨3, A', c', _, 32, rfl, rfl, ho', hb.trans hb', Lib.hid (.inr (.inr (.inr (.inl ⟨rfl, rfl, rfl⟩))))⟩
      case measure => simp [intOf]
    · obtain ⟨x0, x1⟩ := D.out (n / 4294967296)
      clear hk U D
      go_wp2_with (first | (at_builtin; refine appL [n / 4294967296 % 256] rfl (.tmp 9) (.tmp 14) rfl rfl ho rfl (in1 x0 x1) (by simp) zb ?_; intro A' c' w' ho' hg' hb' hs'))
      go_roundw
      case rel => exact ⟨4, A', c', _, 24, rfl, rfl, ho', hb.trans hb', Lib.hid (.inr (.inr (.inr (.inr (.inl ⟨rfl, rfl, rfl⟩)))))⟩
      case measure => simp [intOf]
    · obtain ⟨x0, x1⟩ := D.out (n / 16777216)
      clear hk U D
      go_wp2_with (first | (at_builtin; refine appL [n / 16777216 % 256] rfl (.tmp 9) (.tmp 14) rfl rfl ho rfl (in1 x0 x1) (by simp) zb ?_; intro A' c' w' ho' hg' hb' hs'))
      go_roundw
      case rel => exact ⟨5, A', c', _, 16, rfl, rfl, ho', hb.trans hb', Lib.hid (.inr (.inr (.inr (.inr (.inr (.inl ⟨rfl, rfl, rfl⟩))))))⟩
      case measure => simp [intOf]
    · obtain ⟨x0, x1⟩ := D.out (n / 65536)
      clear hk U D
      go_wp2_with (first | (at_builtin; refine appL [n / 65536 % 256] rfl (.tmp 9) (.tmp 14) rfl rfl ho rfl (in1 x0 x1) (by simp) zb ?_; intro A' c' w' ho' hg' hb' hs'))
      go_roundw
      case rel => exact ⟨6, A', c', _, 8, rfl, rfl, ho', hb.trans hb', Lib.hid (.inr (.inr (.inr (.inr (.inr (.inr (.inl ⟨rfl, rfl, rfl⟩)))))))⟩
      case measure => simp [intOf]
    · obtain ⟨x0, x1⟩ := D.out (n / 256)
      clear hk U D
      go_wp2_with (first | (at_builtin; refine appL [n / 256 % 256] rfl (.tmp 9) (.tmp 14) rfl rfl ho rfl (in1 x0 x1) (by simp) zb ?_; intro A' c' w' ho' hg' hb' hs'))
      go_roundw
      case rel => exact ⟨7, A', c', _, 0, rfl, rfl, ho', hb.trans hb', Lib.hid (.inr (.inr (.inr (.inr (.inr (.inr (.inr (.inl ⟨rfl, rfl, rfl⟩))))))))⟩
      case measure => simp [intOf]
    · obtain ⟨x0, x1⟩ := D.out (n)
      clear hk U D
      go_wp2_with (first | (at_builtin; refine appL [n % 256] rfl (.tmp 9) (.tmp 14) rfl rfl ho rfl (in1 x0 x1) (by simp) zb ?_; intro A' c' w' ho' hg' hb' hs'))
      go_roundw
      case rel => exact ⟨8, A', c', _, -8, rfl, rfl, ho', hb.trans hb', Lib.hid (.inr (.inr (.inr (.inr (.inr (.inr (.inr (.inr (⟨rfl, rfl, rfl⟩)))))))))⟩
      case measure => simp [intOf]
    · obtain ⟨w5, rfl⟩ : ∃ w5 : World, w5 = wr := ⟨_, rfl⟩
      obtain ⟨g, rfl⟩ := ho.shape (by omega)
      have C0 : Cut w5 w5.heap.size u ⟨g, 0, none⟩ 8 c := ⟨_, ho.rd, U.out, by omega, ho.cap, ho.capMax⟩
      clear ho hk U D
      go_wp2
      go_loop [3] (fun b => ∃ (p : Addr) (m cm : Nat), b = .slice (some p) m cm ∧ Cut w5 w5.heap.size u p m cm) (fun b => match b with | .slice _ m _ => m | _ => 0)
      case atStart => exact ⟨_, _, _, rfl, C0⟩
      case round =>
        clear C0
        obtain ⟨p, m, cm, rfl, l', hr, ht, h1, hc, hm⟩ := hrel
        have V := Lib.hid (valid_any (c := cm) w5 hr (Nat.le_refl _))
        have HT := Lib.hid ht
        have hl := Lib.hid hr.len
        unfold maxLen at hm
        by_cases hm1 : 1 < m
        · cases hv : validI l' with
          | false =>
            have R' := Lib.hid (show Cut w5 w5.heap.size u ⟨p.block, p.off + 1, none⟩ (m - 1) (cm - 1) from
              ⟨l'.drop 1, tail1 hr h1 hc (by omega), by rw [← trim_go (by rw [hl.out]; omega) hv]; exact ht, by omega, by omega, by unfold maxLen; omega⟩)
            rw [hv] at V
            have hcm : ¬ cm = 1 := by omega
            have hcm1 : (1 : Int) ≤ (cm : Int) := by omega
            have hm1' : (1 : Int) ≤ (m : Int) := by omega
            clear hr hv ht HT
            go_wp2_with (go_at_call 14; refine V.out.mono ?_; rintro e w' ⟨rfl, rfl⟩)
            go_round
            case rel => exact ⟨_, _, _, rfl, R'.out⟩
            case measure => show m - 1 < m; omega
          | true =>
            have E := Lib.hid (show u = l' from by rw [← ht]; exact trim_stop (by rw [hv]; simp))
            have HR := Lib.hid hr
            rw [hv] at V
            clear hr hv ht HT
            go_wp2_with (go_at_call 14; refine V.out.mono ?_; rintro e w' ⟨rfl, rfl⟩)
            go_ret
            exact RdP.mk E.out rfl HR.out (Nat.le_refl _) hc (by unfold maxLen; omega) hb
        · have E := Lib.hid (show u = l' from by rw [← ht]; exact trim_stop (by rw [hl.out]; omega))
          have HR := Lib.hid hr
          clear hr ht HT
          go_wp2
          go_ret
          exact RdP.mk E.out rfl HR.out (Nat.le_refl _) hc (by unfold maxLen; omega) hb
end Go.Proofs.Ytiogcdpmgomllaa.Int4
