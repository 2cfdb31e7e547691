/- Walks: Compare, of the package integer and of its reference. -/
import Derived.Test.YtjdnjmggpomhcaaPlOrd
import Derived.Test.YtjdnjmggpomhcaaIntC
import Derived.Test.YtjdnjmggpomhcaaIntH
import Derived.Test.YtjdnjmggpomhcaaLit
import Derived.Test.YtjdnjmggpomhcaaCurB
set_option linter.unusedSimpArgs false
set_option linter.unusedVariables false
namespace Go.Proofs.Ytjdnjmggpomhcaa.Int4
open Go.RowKit Kit Tlv Cur

/-- the closure 'negative' -/
theorem negc_any {A : Option Addr} {n c B : Nat} {l : List UInt8} (w : World) (hr : Rd w B A n l) (hB : B ≤ w.heap.size) (hn : 1 ≤ n) :
    Calls Try.prog 67 #[.slice A n c] w fun e w' => e = .returned (.bool (neg l)) ∧ w = w' := by
  obtain ⟨ad, rfl, hb, c0, _⟩ := two_at hr hn
  have hb' : ad.block < w.heap.size := by omega
  have hn0 : (0 : Int) < (n : Int) := by omega
  have x0 := bt_lo l 0
  have x1 := bt_hi l 0
  have F1 := Lib.hid (fun h => neg_yes (l := l) h)
  have F2 := Lib.hid (fun h => neg_no (l := l) h)
  clear hr
  by_cases g : 128 ≤ bt l 0
  · have F := Lib.hid (F1.out g)
    have an := and_hi x0 x1 g
    clear g F1 F2
    generalize bt l 0 = x at *
    go_enter Try.func67, Try.ntmps67
    go_wp2
    go_ret
    exact ⟨ret_bool F.out.symm, rfl⟩
  · have F := Lib.hid (F2.out g)
    have an := and_lo x0 x1 g
    clear g F1 F2
    generalize bt l 0 = x at *
    go_enter Try.func67, Try.ntmps67
    go_wp2
    go_ret
    exact ⟨ret_bool F.out.symm, rfl⟩

set_option maxRecDepth 100000 in
set_option maxHeartbeats 4000000 in
theorem icompare_any {A1 A2 : Option Addr} {n1 c1 n2 c2 B1 B2 : Nat} {a b : List UInt8} (w : World) (h1 : Rd w B1 A1 n1 a) (hB1 : B1 ≤ w.heap.size) (h2 : Rd w B2 A2 n2 b) (hB2 : B2 ≤ w.heap.size) (m1 : n1 ≤ maxLen) (m2 : n2 ≤ maxLen) :
    Calls Try.prog 51 #[.slice A1 n1 c1, .slice A2 n2 c2] w fun e w' => e = .returned (.int .i64 (cmpI a b)) ∧ w = w' := by
  have l1 := h1.len
  have l2 := h2.len
  have V1 := Lib.hid (valid_any (c := c1) w h1 hB1)
  have V2 := Lib.hid (valid_any (c := c2) w h2 hB2)
  cases va : validI a with
  | false =>
    have F := Lib.hid (cmpI_bad (a := a) (b := b) (by rw [va]; simp))
    rw [va] at V1
    clear h1 h2 l1 l2 va
    go_enter Try.func51, Try.ntmps51
    go_wp2_with fail
    refine V1.out.mono ?_
    rintro e w' ⟨rfl, rfl⟩
    go_wp2
    go_ret
    exact ⟨ret_int F.out.symm, rfl⟩
  | true =>
  cases vb : validI b with
  | false =>
    have F := Lib.hid (cmpI_bad (a := a) (b := b) (by rw [vb]; simp))
    rw [va] at V1
    rw [vb] at V2
    clear h1 h2 l1 l2 va vb
    go_enter Try.func51, Try.ntmps51
    go_wp2_with fail
    refine V1.out.mono ?_
    rintro e w' ⟨rfl, rfl⟩
    go_wp2_with fail
    refine V2.out.mono ?_
    rintro e w' ⟨rfl, rfl⟩
    go_wp2
    go_ret
    exact ⟨ret_int F.out.symm, rfl⟩
  | true =>
  have p1 := valid_pos va
  have p2 := valid_pos vb
  have N1 := Lib.hid (negc_any (c := c1) w h1 hB1 (by omega))
  have N2 := Lib.hid (negc_any (c := c2) w h2 hB2 (by omega))
  have CM := Lib.hid (Cur.compare_any A1 A2 n1 c1 n2 c2 a b w h1 h2 m1 m2)
  rw [va] at V1
  rw [vb] at V2
  have CI := cmpI_ok va vb
  by_cases ga : 128 ≤ bt a 0 <;> by_cases gb : 128 ≤ bt b 0
  · rw [neg_yes ga] at N1
    rw [neg_yes gb] at N2
    rcases Nat.lt_trichotomy n1 n2 with hl | hl | hl
    · have F := Lib.hid (CI.trans (sgn_gt ((cmp_short va vb (by omega)).1 ga gb)))
      have e1 : ((n1 : Int) == (n2 : Int)) = false := by rw [beq_eq_false_iff_ne]; omega
      clear h1 h2 l1 l2 va vb p1 p2 CI ga gb CM m1 m2
      go_enter Try.func51, Try.ntmps51
      go_wp2_with fail
      refine V1.out.mono ?_
      rintro e w' ⟨rfl, rfl⟩
      go_wp2_with fail
      refine V2.out.mono ?_
      rintro e w' ⟨rfl, rfl⟩
      go_wp2_with (first | (go_at_call 67; (with_reducible refine Calls.mono N1.out ?_); rintro e w' ⟨rfl, rfl⟩) | (go_at_call 67; (with_reducible refine Calls.mono N2.out ?_); rintro e w' ⟨rfl, rfl⟩))
      go_ret
      exact ⟨(by first | exact ret_int F.out.symm | rfl), rfl⟩
    · have F := Lib.hid (CI.trans (cmp_same (by omega) ⟨fun _ => gb, fun _ => ga⟩).symm)
      subst hl
      clear h1 h2 l1 l2 va vb p1 p2 CI ga gb m1 m2
      go_enter Try.func51, Try.ntmps51
      go_wp2_with fail
      refine V1.out.mono ?_
      rintro e w' ⟨rfl, rfl⟩
      go_wp2_with fail
      refine V2.out.mono ?_
      rintro e w' ⟨rfl, rfl⟩
      go_wp2_with (first | (go_at_call 67; (with_reducible refine Calls.mono N1.out ?_); rintro e w' ⟨rfl, rfl⟩) | (go_at_call 67; (with_reducible refine Calls.mono N2.out ?_); rintro e w' ⟨rfl, rfl⟩) | (go_at_call 68; refine CM.out.mono ?_; rintro e w' ⟨rfl, rfl⟩))
      go_ret
      exact ⟨ret_int F.out.symm, rfl⟩
    · have F := Lib.hid (CI.trans (sgn_lt (by have := (cmp_short vb va (by omega)).1 gb ga; omega)))
      have e1 : ((n1 : Int) == (n2 : Int)) = false := by rw [beq_eq_false_iff_ne]; omega
      have e2 : ¬ n1 < n2 := by omega
      clear h1 h2 l1 l2 va vb p1 p2 CI ga gb CM m1 m2
      go_enter Try.func51, Try.ntmps51
      go_wp2_with fail
      refine V1.out.mono ?_
      rintro e w' ⟨rfl, rfl⟩
      go_wp2_with fail
      refine V2.out.mono ?_
      rintro e w' ⟨rfl, rfl⟩
      go_wp2_with (first | (go_at_call 67; (with_reducible refine Calls.mono N1.out ?_); rintro e w' ⟨rfl, rfl⟩) | (go_at_call 67; (with_reducible refine Calls.mono N2.out ?_); rintro e w' ⟨rfl, rfl⟩))
      go_ret
      exact ⟨(by first | exact ret_int F.out.symm | rfl), rfl⟩
  · have F := Lib.hid (CI.trans (sgn_lt (cmp_signs va vb ga gb)))
    rw [neg_yes ga] at N1
    rw [neg_no gb] at N2
    clear h1 h2 l1 l2 va vb p1 p2 CI ga gb CM m1 m2
    go_enter Try.func51, Try.ntmps51
    go_wp2_with fail
    refine V1.out.mono ?_
    rintro e w' ⟨rfl, rfl⟩
    go_wp2_with fail
    refine V2.out.mono ?_
    rintro e w' ⟨rfl, rfl⟩
    go_wp2_with (first | (go_at_call 67; (with_reducible refine Calls.mono N1.out ?_); rintro e w' ⟨rfl, rfl⟩) | (go_at_call 67; (with_reducible refine Calls.mono N2.out ?_); rintro e w' ⟨rfl, rfl⟩))
    go_ret
    exact ⟨(by first | exact ret_int F.out.symm | rfl), rfl⟩
  · have F := Lib.hid (CI.trans (sgn_gt (by have := cmp_signs vb va gb ga; omega)))
    rw [neg_no ga] at N1
    rw [neg_yes gb] at N2
    clear h1 h2 l1 l2 va vb p1 p2 CI ga gb CM m1 m2
    go_enter Try.func51, Try.ntmps51
    go_wp2_with fail
    refine V1.out.mono ?_
    rintro e w' ⟨rfl, rfl⟩
    go_wp2_with fail
    refine V2.out.mono ?_
    rintro e w' ⟨rfl, rfl⟩
    go_wp2_with (first | (go_at_call 67; (with_reducible refine Calls.mono N1.out ?_); rintro e w' ⟨rfl, rfl⟩) | (go_at_call 67; (with_reducible refine Calls.mono N2.out ?_); rintro e w' ⟨rfl, rfl⟩))
    go_ret
    exact ⟨(by first | exact ret_int F.out.symm | rfl), rfl⟩
  · rw [neg_no ga] at N1
    rw [neg_no gb] at N2
    rcases Nat.lt_trichotomy n1 n2 with hl | hl | hl
    · have F := Lib.hid (CI.trans (sgn_lt ((cmp_short va vb (by omega)).2 ga gb)))
      have e1 : ((n1 : Int) == (n2 : Int)) = false := by rw [beq_eq_false_iff_ne]; omega
      clear h1 h2 l1 l2 va vb p1 p2 CI ga gb CM m1 m2
      go_enter Try.func51, Try.ntmps51
      go_wp2_with fail
      refine V1.out.mono ?_
      rintro e w' ⟨rfl, rfl⟩
      go_wp2_with fail
      refine V2.out.mono ?_
      rintro e w' ⟨rfl, rfl⟩
      go_wp2_with (first | (go_at_call 67; (with_reducible refine Calls.mono N1.out ?_); rintro e w' ⟨rfl, rfl⟩) | (go_at_call 67; (with_reducible refine Calls.mono N2.out ?_); rintro e w' ⟨rfl, rfl⟩))
      go_ret
      exact ⟨(by first | exact ret_int F.out.symm | rfl), rfl⟩
    · have F := Lib.hid (CI.trans (cmp_same (by omega) ⟨fun h => absurd h ga, fun h => absurd h gb⟩).symm)
      subst hl
      clear h1 h2 l1 l2 va vb p1 p2 CI ga gb m1 m2
      go_enter Try.func51, Try.ntmps51
      go_wp2_with fail
      refine V1.out.mono ?_
      rintro e w' ⟨rfl, rfl⟩
      go_wp2_with fail
      refine V2.out.mono ?_
      rintro e w' ⟨rfl, rfl⟩
      go_wp2_with (first | (go_at_call 67; (with_reducible refine Calls.mono N1.out ?_); rintro e w' ⟨rfl, rfl⟩) | (go_at_call 67; (with_reducible refine Calls.mono N2.out ?_); rintro e w' ⟨rfl, rfl⟩) | (go_at_call 68; refine CM.out.mono ?_; rintro e w' ⟨rfl, rfl⟩))
      go_ret
      exact ⟨ret_int F.out.symm, rfl⟩
    · have F := Lib.hid (CI.trans (sgn_gt (by have := (cmp_short vb va (by omega)).2 gb ga; omega)))
      have e1 : ((n1 : Int) == (n2 : Int)) = false := by rw [beq_eq_false_iff_ne]; omega
      have e2 : ¬ n1 < n2 := by omega
      clear h1 h2 l1 l2 va vb p1 p2 CI ga gb CM m1 m2
      go_enter Try.func51, Try.ntmps51
      go_wp2_with fail
      refine V1.out.mono ?_
      rintro e w' ⟨rfl, rfl⟩
      go_wp2_with fail
      refine V2.out.mono ?_
      rintro e w' ⟨rfl, rfl⟩
      go_wp2_with (first | (go_at_call 67; (with_reducible refine Calls.mono N1.out ?_); rintro e w' ⟨rfl, rfl⟩) | (go_at_call 67; (with_reducible refine Calls.mono N2.out ?_); rintro e w' ⟨rfl, rfl⟩))
      go_ret
      exact ⟨(by first | exact ret_int F.out.symm | rfl), rfl⟩

/-- what the reference's wide returns -/
def WideP (w : World) (n : Nat) (v : Int) (e : Ending) (w' : World) : Prop := ∃ A c u, e = .returned (.slice A n c) ∧ Own w' w.heap.size A n c u ∧ beI u = v ∧ Below w.heap.size w w'
theorem xor_128 {b : Int} (h0 : 0 ≤ b) (h1 : b ≤ 255) : bits BinOp.xor IntKind.u8 b 128 = if 128 ≤ b then b - 128 else b + 128 := by
  have : ∀ a : Fin 256, bits BinOp.xor IntKind.u8 ((a.1 : Nat) : Int) 128 = if (128 : Int) ≤ ((a.1 : Nat) : Int) then ((a.1 : Nat) : Int) - 128 else ((a.1 : Nat) : Int) + 128 := by decide +kernel
  obtain ⟨a, rfl⟩ := Int.eq_ofNat_of_zero_le h0
  exact this ⟨a, by omega⟩

set_option maxRecDepth 100000 in
set_option maxHeartbeats 4000000 in
theorem wide_any {A : Option Addr} {n c B : Nat} {l : List UInt8} (k : Nat) (w : World) (hr : Rd w B A n l) (hB : B ≤ w.heap.size) (hn : 1 ≤ n) (hk : n ≤ k + 1) (hk2 : k + 1 ≤ 100000) :
    Calls Try.prog 69 #[.slice A n c, .int .i64 ((k : Int) + 1)] w (WideP w (k + 1) (sv l + 128 * pw k)) := by
  have hl := hr.len
  have ow := Own.lit (base := w.heap.size) w [] (Nat.le_refl _) (Nat.zero_le _)
  have q' := hr.alloc hB (.cells (vs []).toArray 5)
  have hba : Below w.heap.size w (w.alloc (.cells (vs []).toArray 5)) := (Below.refl _ _).alloc (Nat.le_refl _) _
  have BI := Lib.hid (fun (X : World) (h : Below w.heap.size w X) => bit_any (c := c) 0 X (hr.below (h.mono hB)) (by have := h.size; omega) (by omega) (by simp; omega))
  rw [neg_bit, show ((0 : Nat) : Int) = 0 from rfl] at BI
  have TU := Lib.hid (fun (u : List UInt8) (h : u.length = k + 1) => sv_turn h)
  have SW := Lib.hid (fun (u : List UInt8) (h : 1 ≤ u.length) => sv_wide h)
  obtain ⟨v, hv⟩ : ∃ v, sv l = v := ⟨_, rfl⟩
  have HV := Lib.hid hv
  have HN := Lib.hid (show 1 ≤ l.length from by omega)
  rw [hv]
  have hg : (128 ≤ bt l 0 ∧ (if 128 ≤ bt l 0 then (1 : Int) else 0) = 1) ∨ (¬ 128 ≤ bt l 0 ∧ (if 128 ≤ bt l 0 then (1 : Int) else 0) = 0) := by
    by_cases g : 128 ≤ bt l 0
    · exact .inl ⟨g, by rw [if_pos g]⟩
    · exact .inr ⟨g, by rw [if_neg g]⟩
  clear hr hl hv
  rcases hg with ⟨g, ge⟩ | ⟨g, ge⟩
  · rw [ge] at BI
    have G := Lib.hid g
    clear g ge
    go_enter Try.func69, Try.ntmps69
    go_upto_region 2 with (first | (at_builtin; refine app rfl (.tmp 7) (.tmp 8) rfl rfl ow rfl q' (by simp; omega) (by simp) ?_; intro A3 c3 w3 o3 hg3 hb3 hs3; simp only [List.length_nil, Nat.zero_add, List.nil_append] at o3))
    have bel := hba.trans hb3
    clear ow q' hba hg3 hb3 hs3
    go_wp2
    go_loopw [5, 6] (fun o x wr => ∃ (j : Nat) (A : Option Addr) (c : Nat) (u : List UInt8), o = .slice A j c ∧ 1 ≤ j ∧ j ≤ k + 1 ∧ Own wr w.heap.size A j c u ∧ Below w.heap.size w wr ∧ Hid (sv u = v ∧ 128 ≤ bt u 0)) (fun o _ _ => match o with | .slice _ j _ => k + 1 - j | _ => 0)
    case atStart => exact ⟨_, _, _, _, rfl, hn, hk, o3, bel, Lib.hid ⟨HV.out, G.out⟩⟩
    case round =>
      clear o3 bel
      obtain ⟨j, A, c, u, rfl, h1, hj, ho, hb, hu⟩ := hrel
      have zb := hb.size
      by_cases hlt : j < k + 1
      · have R := Lib.hid ((SW.out u (by rw [ho.len]; exact h1)).1 hu.out.2)
        have hu2 := Lib.hid hu.out.1
        have BK := Lib.hid (BI.out _ hb)
        have rd := ho.rd
        clear hu
        go_wp2_with (first | (go_at_call 61; refine BK.out.mono ?_; rintro e w' ⟨rfl, rfl⟩) | (at_builtin; refine app rfl (.tmp 18) (.tmp 19) rfl rfl (lit1' (base := w.heap.size) wr 255 (by omega) (by omega) zb) rfl (rd.allocS _) (by omega) (by simp; omega) ?_; intro A4 c4 w4 ho4 hg4 hb4 hs4))
        go_roundw
        case rel => exact ⟨1 + j, A4, c4, 255 :: u, rfl, by omega, by omega, ho4, (hb.alloc zb _).trans hb4, Lib.hid ⟨by rw [R.out.1]; exact hu2.out, R.out.2⟩⟩
        case measure => show k + 1 - (1 + j) < k + 1 - j; omega
      · obtain rfl : j = k + 1 := by omega
        obtain ⟨ga, rfl⟩ := ho.shape (by omega)
        have cc := ho.cellAt (k := 0) (by omega)
        have ff := ho.frozenAt 0
        have T := Lib.hid ((TU.out u ho.len).1 hu.out.2)
        have U1 := Lib.hid hu.out.1
        have x0 := bt_lo u 0
        have x1 := bt_hi u 0
        have hx := xor_128 x0 x1
        rw [if_pos hu.out.2] at hx
        have hs := Lib.hid (ho.stored 0 (x := bt u 0 - 128) (by have := hu.out.2; omega) (by omega))
        have bel' := Lib.hid (fun v => (hb.setCell (p := ⟨ga, 0, none⟩) ho.lt.1 v))
        clear hu
        generalize bt u 0 = y at *
        go_wp2
        go_ret
        exact ⟨_, c, _, rfl, hs.out, by rw [T.out, U1.out], bel'.out _⟩
  · rw [ge] at BI
    have G := Lib.hid g
    clear g ge
    go_enter Try.func69, Try.ntmps69
    go_upto_region 2 with (first | (at_builtin; refine app rfl (.tmp 7) (.tmp 8) rfl rfl ow rfl q' (by simp; omega) (by simp) ?_; intro A3 c3 w3 o3 hg3 hb3 hs3; simp only [List.length_nil, Nat.zero_add, List.nil_append] at o3))
    have bel := hba.trans hb3
    clear ow q' hba hg3 hb3 hs3
    go_wp2
    go_loopw [5, 6] (fun o x wr => ∃ (j : Nat) (A : Option Addr) (c : Nat) (u : List UInt8), o = .slice A j c ∧ 1 ≤ j ∧ j ≤ k + 1 ∧ Own wr w.heap.size A j c u ∧ Below w.heap.size w wr ∧ Hid (sv u = v ∧ ¬ 128 ≤ bt u 0)) (fun o _ _ => match o with | .slice _ j _ => k + 1 - j | _ => 0)
    case atStart => exact ⟨_, _, _, _, rfl, hn, hk, o3, bel, Lib.hid ⟨HV.out, by have := G.out; omega⟩⟩
    case round =>
      clear o3 bel
      obtain ⟨j, A, c, u, rfl, h1, hj, ho, hb, hu⟩ := hrel
      have zb := hb.size
      by_cases hlt : j < k + 1
      · have R := Lib.hid ((SW.out u (by rw [ho.len]; exact h1)).2 (by have := hu.out.2; omega))
        have hu2 := Lib.hid hu.out.1
        have BK := Lib.hid (BI.out _ hb)
        have rd := ho.rd
        clear hu
        go_wp2_with (first | (go_at_call 61; refine BK.out.mono ?_; rintro e w' ⟨rfl, rfl⟩) | (at_builtin; refine app rfl (.tmp 18) (.tmp 19) rfl rfl (lit1' (base := w.heap.size) wr 0 (by omega) (by omega) zb) rfl (rd.allocS _) (by omega) (by simp; omega) ?_; intro A4 c4 w4 ho4 hg4 hb4 hs4))
        go_roundw
        case rel => exact ⟨1 + j, A4, c4, 0 :: u, rfl, by omega, by omega, ho4, (hb.alloc zb _).trans hb4, Lib.hid ⟨by rw [R.out.1]; exact hu2.out, by have := R.out.2; omega⟩⟩
        case measure => show k + 1 - (1 + j) < k + 1 - j; omega
      · obtain rfl : j = k + 1 := by omega
        obtain ⟨ga, rfl⟩ := ho.shape (by omega)
        have cc := ho.cellAt (k := 0) (by omega)
        have ff := ho.frozenAt 0
        have T := Lib.hid ((TU.out u ho.len).2 (by have := hu.out.2; omega))
        have U1 := Lib.hid hu.out.1
        have x0 := bt_lo u 0
        have x1 := bt_hi u 0
        have hx := xor_128 x0 x1
        rw [if_neg (by have := hu.out.2; omega)] at hx
        have hs := Lib.hid (ho.stored 0 (x := bt u 0 + 128) (by omega) (by have := hu.out.2; omega))
        have bel' := Lib.hid (fun v => (hb.setCell (p := ⟨ga, 0, none⟩) ho.lt.1 v))
        clear hu
        generalize bt u 0 = y at *
        go_wp2
        go_ret
        exact ⟨_, c, _, rfl, hs.out, by rw [T.out, U1.out], bel'.out _⟩

set_option maxRecDepth 100000 in
set_option maxHeartbeats 4000000 in
theorem refcompareI_any {A1 A2 : Option Addr} {n1 c1 n2 c2 B1 B2 : Nat} {a b : List UInt8} (w : World) (h1 : Rd w B1 A1 n1 a) (hB1 : B1 ≤ w.heap.size) (h2 : Rd w B2 A2 n2 b) (hB2 : B2 ≤ w.heap.size) (m1 : n1 ≤ 90000) (m2 : n2 ≤ 90000) :
    Calls Try.prog 52 #[.slice A1 n1 c1, .slice A2 n2 c2] w fun e w' => e = .returned (.int .i64 (cmpI a b)) ∧ Below w.heap.size w w' := by
  have l1 := h1.len
  have l2 := h2.len
  have V1 := Lib.hid (refvalid_any (c := c1) w h1 hB1)
  have V2 := Lib.hid (refvalid_any (c := c2) w h2 hB2)
  cases va : validI a with
  | false =>
    have F := Lib.hid (cmpI_bad (a := a) (b := b) (by rw [va]; simp))
    rw [va] at V1
    clear h1 h2 l1 l2 va
    go_enter Try.func52, Try.ntmps52
    go_wp2_with fail
    refine V1.out.mono ?_
    rintro e w' ⟨rfl, rfl⟩
    go_wp2
    go_ret
    exact ⟨ret_int F.out.symm, (by repeat' (first | (with_reducible exact Below.refl _ _) | (with_reducible assumption) | (with_reducible refine below_drewN ?_ _) | (with_reducible refine Below.drew ?_) | (with_reducible refine Below.alloc ?_ ?_ _) | (with_reducible refine Below.setCell ?_ ?_ _) | go_size))⟩
  | true =>
  cases vb : validI b with
  | false =>
    have F := Lib.hid (cmpI_bad (a := a) (b := b) (by rw [vb]; simp))
    rw [va] at V1
    rw [vb] at V2
    clear h1 h2 l1 l2 va vb
    go_enter Try.func52, Try.ntmps52
    go_wp2_with fail
    refine V1.out.mono ?_
    rintro e w' ⟨rfl, rfl⟩
    go_wp2_with fail
    refine V2.out.mono ?_
    rintro e w' ⟨rfl, rfl⟩
    go_wp2
    go_ret
    exact ⟨ret_int F.out.symm, (by repeat' (first | (with_reducible exact Below.refl _ _) | (with_reducible assumption) | (with_reducible refine below_drewN ?_ _) | (with_reducible refine Below.drew ?_) | (with_reducible refine Below.alloc ?_ ?_ _) | (with_reducible refine Below.setCell ?_ ?_ _) | go_size))⟩
  | true =>
  have p1 := valid_pos va
  have p2 := valid_pos vb
  rw [va] at V1
  rw [vb] at V2
  have CI := Lib.hid (cmpI_ok va vb)
  obtain ⟨k, hk⟩ : ∃ k, max n1 n2 = k + 1 := ⟨max n1 n2 - 1, by omega⟩
  have W1 := Lib.hid (wide_any (c := c1) k w h1 hB1 (by omega) (by omega) (by omega))
  have W2 := Lib.hid (fun (X : World) (h : Below w.heap.size w X) => wide_any (c := c2) k X (h2.below (h.mono hB2)) (by have := h.size; omega) (by omega) (by omega) (by omega))
  have hmx : (if n1 < n2 then (n2 : Int) else (n1 : Int)) = (k : Int) + 1 := by split <;> omega
  have hk3 : k + 1 ≤ 90000 := by omega
  clear h1 h2 l1 l2 va vb p1 p2 hk
  go_enter Try.func52, Try.ntmps52
  go_wp2_with fail
  refine V1.out.mono ?_
  rintro e w' ⟨rfl, rfl⟩
  go_wp2_with fail
  refine V2.out.mono ?_
  rintro e w' ⟨rfl, rfl⟩
  go_wp2_with fail
  refine W1.out.mono ?_
  rintro e w3 ⟨A3, c3, u3, rfl, o3, e3, b3⟩
  have E3 := Lib.hid e3
  have r3 := o3.rd
  clear e3 o3 W1 V1 V2
  go_wp2_with fail
  refine (W2.out _ b3).mono ?_
  rintro e w4 ⟨A4, c4, u4, rfl, o4, e4, b4⟩
  have r4 := o4.rd
  replace r3 := r3.past b4
  have FC := Lib.hid (show cmpL u3 u4 = cmpI a b from by
    rw [cmpL_be (by rw [r3.len, r4.len]), E3.out, e4, CI.out]; congr 1; omega)
  have bel := b3.trans (b4.mono b3.size)
  clear e4 o4 W2 b3 b4 CI E3
  go_wp2_with fail
  refine (Cur.refcompare_any _ _ _ _ _ _ _ _ _ r3 r4 (by unfold maxLen; omega) (by unfold maxLen; omega)).mono ?_
  rw [FC.out]
  rintro e w' ⟨rfl, m, rfl⟩
  go_wp2_with fail
  go_ret
  exact ⟨rfl, below_drewN bel m⟩
end Go.Proofs.Ytjdnjmggpomhcaa.Int4
