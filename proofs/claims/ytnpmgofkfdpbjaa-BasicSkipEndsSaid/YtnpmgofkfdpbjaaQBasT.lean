/- The walk of BasicSkipEnds. -/
import Derived.Test.YtnpmgofkfdpbjaaQBasS
set_option linter.unusedSimpArgs false
set_option linter.unusedVariables false
namespace Go.Proofs.Ytnpmgofkfdpbjaa
open Go.RowKit Kit Tlv Bas Go.Sort

theorem Bas.ski_pre {a b a' b' : Bool} {r q r' q' : Int} {m : List UInt8} (hv : skiB a r b q = true) (hv' : skiB a' r' b' q' = true) (e : skiL a' r' b' q' = skiL a r b q ++ m) : m = [] := by
  obtain ⟨_, h1, _, h2, _⟩ := skiB_iff.1 hv
  obtain ⟨_, h1', _, h2', _⟩ := skiB_iff.1 hv'
  have k := skiP_len (hr := a) (hi := b) h1 h2
  have k' := skiP_len (hr := a') (hi := b') h1' h2'
  rw [(ski_yes hv).2, (ski_yes hv').2] at e
  have h := (enc_prefix (seq_code (by omega)) (seq_code (by omega)) e).2.2.2
  rw [h] at e
  have := congrArg List.length e
  rw [List.length_append] at this
  exact List.eq_nil_of_length_eq_zero (by omega)
def Bas.SkC (w : World) (args : Array Value) (P : Prop) : Prop :=
  ∃ a r b q code off, (code = 0 ↔ P) ∧ Calls Try.prog 65 args w fun e w' => e = .returned (spR a r b q code off) ∧ Below w.heap.size w w'
theorem Bas.skcut {a b : Bool} {r q : Int} (hv : skiB a r b q = true) {A : Option Addr} {c B i : Nat} (w : World) (hi : i < (skiL a r b q).length) (hr : Rd w B A i ((skiL a r b q).take i)) (hB : B ≤ w.heap.size) (hc : i ≤ c) (hm : c ≤ maxLen) : SkC w #[.slice A i c] False := by
  have hle := ski_len a r b q
  rcases skparse_any w hr hB hc hm (by omega) with ⟨a', r', b', q', hv', e, hC⟩ | ⟨hno, code, off, h1, _, _, hC⟩
  · have := ski_pre (m := (skiL a r b q).drop i) hv' hv (by rw [← e, List.take_append_drop])
    have := congrArg List.length this
    rw [List.length_drop, List.length_nil] at this
    omega
  · exact ⟨_, _, _, _, code, off, by constructor <;> intro h <;> first | omega | exact h.elim, hC⟩
theorem Bas.skmore {a b : Bool} {r q : Int} (hv : skiB a r b q = true) {A : Option Addr} {c B n : Nat} {m : List UInt8} (w : World) (hr : Rd w B A n (skiL a r b q ++ m)) (hB : B ≤ w.heap.size) (hc : n ≤ c) (hm : c ≤ maxLen) (hn : n ≤ 1000000) : SkC w #[.slice A n c] (m = []) := by
  rcases skparse_any w hr hB hc hm hn with ⟨a', r', b', q', hv', e, hC⟩ | ⟨hno, code, off, h1, _, _, hC⟩
  · exact ⟨a', r', b', q', 0, 0, ⟨fun _ => ski_pre hv hv' e.symm, fun _ => rfl⟩, hC⟩
  · refine ⟨_, _, _, _, code, off, ⟨fun h => by omega, fun h => ?_⟩, hC⟩
    subst h
    rw [List.append_nil] at hno
    exact absurd rfl (hno _ _ _ _ hv)

set_option maxRecDepth 100000 in
set_option maxHeartbeats 4000000 in
theorem BasicSkipEnds.walk (sa : Bool) (r : Int) (sb : Bool) (q : Int) (at_ : Int) (a2 : Option Addr) (len2 cap2 : Nat) (l2 : List UInt8) (w : World) (ba : 0 ≤ at_ ∧ at_ ≤ 65535) (rd2 : Rd w w.heap.size a2 len2 l2) (hcz : len2 ≤ cap2) (hmz : cap2 ≤ maxLen) :
    Calls Try.prog 16 #[skV sa r sb q, .int .u16 at_, .slice a2 len2 cap2] w fun e w' => e = .returned (.bool true) ∧ Below w.heap.size w w' := by
  clear hcz hmz
  have M1 := Lib.hid (fun w => mars_any sa r sb q w)
  have FW := Lib.hid (fun w => fews_any sa r sb q w)
  have HC := Lib.hid (show skiC sa r sb q = 0 ∧ skiB sa r sb q = true ∨ skiC sa r sb q = 8 from by unfold skiC; split <;> simp [*])
  have LL := Lib.hid (ski_len sa r sb q)
  have LP := Lib.hid (fun (h : skiB sa r sb q = true) => show 2 ≤ (skiL sa r sb q).length from by
    have hlen := skiP_len (hr := sa) (hi := sb) (skiB_iff.1 h).2.1 (skiB_iff.1 h).2.2.2.1
    rw [(ski_yes h).2, enc_len (seq_code (by omega))]
    have := (rl_len (encCode_ok (seq_code (k := skiP sa r sb q) (by omega))).2 []).2.1
    omega)
  have KC := Lib.hid (fun (hv : skiB sa r sb q = true) (A : Option Addr) (c B i : Nat) (X : World) => skcut (A := A) (c := c) (B := B) (i := i) hv X)
  have KM := Lib.hid (fun (hv : skiB sa r sb q = true) (A : Option Addr) (c B n : Nat) (m : List UInt8) (X : World) => skmore (A := A) (c := c) (B := B) (n := n) (m := m) hv X)
  obtain ⟨a0, a1⟩ := ba
  have hl2 := Lib.hid rd2.len
  generalize skiL sa r sb q = L at *
  generalize skiC sa r sb q = cd at *
  generalize skiB sa r sb q = vb at *
  go_enter Try.func16, Try.ntmps16
  go_wp2_with fail
  go_must (go_fit (awake16_any _))
  rintro e w0 ⟨rfl, hb0⟩
  have tb := blk1 hb0
  have bel := bel1 hb0
  clear hb0
  obtain ⟨q0, q1, q2, q3⟩ := cells4 tb
  go_wp2_with fail
  go_must (go_fit (FW.out _))
  rintro e w9 ⟨rfl, hb9⟩
  replace tb := stayK tb hb9
  replace bel := two_belowK bel hb9 bel.size
  clear hb9 q0 q1 q2 q3
  obtain ⟨q0, q1, q2, q3⟩ := cells4 tb
  have z9 := Blk_lt tb
  by_cases hbig : 2000 < len2
  · have hbig' : (2000 : Int) < (len2 : Int) := by omega
    go_wp2_with fail
    go_must (go_fit (awake16_any _))
    rintro e w1 ⟨rfl, hb1⟩
    go_wp2
    go_ret
    exact ⟨rfl, two_belowK bel hb1 bel.size⟩
  have hbig' : ¬ (2000 : Int) < (len2 : Int) := by omega
  go_wp2_with fail
  go_must (go_fit (M1.out _))
  rintro e w1 ⟨A1, c1, rfl, o1, hb1⟩
  clear q0 q1 q2 q3 tb
  replace bel := two_belowK bel hb1 bel.size
  clear hb1
  by_cases hcd : cd = 0
  · have hvb : vb = true := by rcases HC.out with ⟨_, h⟩ | h; exact h; omega
    subst hcd hvb
    have hl1 := LP.out rfl
    replace KM := Lib.hid (KM.out rfl)
    have hl3 := LL.out
    obtain ⟨i, hi⟩ : ∃ i : Nat, at_ % (L.length : Int) = (i : Int) := ⟨(at_ % (L.length : Int)).toNat, by have := Int.emod_nonneg at_ (show (L.length : Int) ≠ 0 by omega); omega⟩
    have hil : i < L.length := by have := Int.emod_lt_of_pos at_ (show 0 < (L.length : Int) by omega); omega
    have hcap := o1.cap
    have hcm := o1.capMax
    have hic : (i : Int) ≤ (c1 : Int) := by omega
    have hi0 : (0 : Int) ≤ (i : Int) := by omega
    obtain ⟨xa, xr, xb, xq, xc, xo, hx, hC⟩ := KC.out rfl A1 c1 w1.heap.size i w1 hil (o1.rd.take (by omega)) (Nat.le_refl _) (by omega) hcm
    have hx0 : ¬ xc = 0 := fun h => hx.1 h
    have CC := Lib.hid hC
    have R1 := Lib.hid o1.rd
    have D1 := Lib.hid (rd2.past bel)
    have B1 := Lib.hid bel
    have HLE := Lib.hid (show L.length ≤ 200 from hl3)
    clear o1 hx hC rd2 bel KC hcm LP LL HC M1 FW
    go_wp2_with fail
    go_must (go_fit CC.out)
    rintro e w3 ⟨rfl, hb3⟩
    have B3 := Lib.hid ((((two_belowK B1.out hb3 B1.out.size)).alloc (two_belowK B1.out hb3 B1.out.size).size (.cells #[.bool xa, .int .i64 xr, .bool xb, .int .i64 xq] 71)).alloc (by have := (two_belowK B1.out hb3 B1.out.size).size; simp; omega) (.cells #[.int .i64 xc, .int .i64 xo] 36))
    have V3 : Hid (((w3.alloc (.cells #[.bool xa, .int .i64 xr, .bool xb, .int .i64 xq] 71)).alloc (.cells #[.int .i64 xc, .int .i64 xo] 36)).heap[w3.heap.size + 1]? = _) := Lib.hid (bk_new (by simp))
    have R3 := Lib.hid (((R1.out.past hb3).allocS (.cells #[.bool xa, .int .i64 xr, .bool xb, .int .i64 xq] 71)).allocS (.cells #[.int .i64 xc, .int .i64 xo] 36))
    have D3 := Lib.hid (((D1.out.past hb3).allocS (.cells #[.bool xa, .int .i64 xr, .bool xb, .int .i64 xq] 71)).allocS (.cells #[.int .i64 xc, .int .i64 xo] 36))
    clear hb3 CC
    go_upto_region 7 with fail
    generalize (w3.alloc (.cells #[.bool xa, .int .i64 xr, .bool xb, .int .i64 xq] 71)).alloc (.cells #[.int .i64 xc, .int .i64 xo] 36) = w4 at *
    generalize w3.heap.size + 1 = b4 at *
    have ow := Own.lit (base := w4.heap.size) w4 [] (Nat.le_refl _) (Nat.zero_le _)
    have r2' := R3.out.alloc (Nat.le_refl _) (.cells (vs []).toArray 5)
    have q' := D3.out.alloc (Nat.le_refl _) (.cells (vs []).toArray 5)
    have hba : Below w4.heap.size w4 (w4.alloc (.cells (vs []).toArray 5)) := (Below.refl _ _).alloc (Nat.le_refl _) _
    go_wp2_with (first
      | (at_builtin; refine app rfl (.tmp 52) (.tmp 53) rfl rfl ow rfl r2' (by simp; omega) (by simp) ?_; intro A4 c4 w5 ho4 hg4 hb4 hs4; simp only [List.length_nil, Nat.zero_add, List.nil_append] at ho4)
      | (at_builtin; refine app rfl (.tmp 54) (.tmp 55) rfl rfl ho4 rfl (q'.below hb4) (by omega) (hba.trans hb4).size ?_; intro A5 c5 w6 ho5 hg5 hb5 hs5))
    obtain ⟨ya, yr, yb, yq, yc, yo, hy, hD⟩ := KM.out A5 c5 w6.heap.size (L.length + len2) l2 w6 ho5.rd (Nat.le_refl _) ho5.cap ho5.capMax (by omega)
    have hb46 := (hba.trans hb4).trans hb5
    have B6 := Lib.hid (two_belowK B3.out hb46 B3.out.size)
    have V6 := Lib.hid (stayK V3.out hb46)
    have CD := Lib.hid hD
    clear ho4 hg4 hb4 hs4 ho5 hg5 hb5 hs5 ow r2' q' hba hb46 hD KM
    go_must (go_fit CD.out)
    rintro e w7 ⟨rfl, hb7⟩
    have V7 := Lib.hid (bk_old (o' := .cells #[.int .i64 yc, .int .i64 yo] 36) (bk_old (o' := .cells #[.bool ya, .int .i64 yr, .bool yb, .int .i64 yq] 71) (stayK V6.out hb7)))
    have U7 : Hid (((w7.alloc (.cells #[.bool ya, .int .i64 yr, .bool yb, .int .i64 yq] 71)).alloc (.cells #[.int .i64 yc, .int .i64 yo] 36)).heap[w7.heap.size + 1]? = _) := Lib.hid (bk_new (by simp))
    have B7 := Lib.hid ((((two_belowK B6.out hb7 B6.out.size)).alloc (two_belowK B6.out hb7 B6.out.size).size (.cells #[.bool ya, .int .i64 yr, .bool yb, .int .i64 yq] 71)).alloc (by have := (two_belowK B6.out hb7 B6.out.size).size; simp; omega) (.cells #[.int .i64 yc, .int .i64 yo] 36))
    clear hb7 CD V6 B6 V3 B3 R3 D3
    go_upto_region 8 with fail
    generalize (w7.alloc (.cells #[.bool ya, .int .i64 yr, .bool yb, .int .i64 yq] 71)).alloc (.cells #[.int .i64 yc, .int .i64 yo] 36) = w8 at *
    generalize w7.heap.size + 1 = b8 at *
    obtain ⟨s0, s1⟩ := cells2 V7.out
    obtain ⟨t0, t1⟩ := cells2 U7.out
    have hlen := hl2.out
    by_cases hz : len2 = 0
    · have hyc : yc = 0 := hy.2 (List.eq_nil_of_length_eq_zero (by omega))
      have hzi : (len2 : Int) = 0 := by omega
      subst hyc
      go_wp2
      go_ret
      exact ⟨by first | rfl | exact ret_bool (by simp [hx0, hzi]), B7.out⟩
    · have hyc : ¬ yc = 0 := fun h => hz (by rw [← hlen, hy.1 h]; rfl)
      have hzi : ¬ (len2 : Int) = 0 := by omega
      have e1 : (yc == (0 : Int)) = false := beq_eq_false_iff_ne.2 hyc
      have e2 : ((len2 : Int) == (0 : Int)) = false := beq_eq_false_iff_ne.2 hzi
      go_wp2
      go_ret
      exact ⟨by first | rfl | exact ret_bool (by simp [hx0, e1, e2]) | exact ret_bool (by rw [e1, e2]; rfl) | exact ret_bool (by rw [e1, e2]), B7.out⟩
  · obtain rfl : cd = 8 := by rcases HC.out with ⟨h, _⟩ | h; exact absurd h hcd; exact h
    go_wp2
    go_ret
    exact ⟨by first | rfl | exact ret_bool (by simp), bel⟩
end Go.Proofs.Ytnpmgofkfdpbjaa
