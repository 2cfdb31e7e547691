/- The walk of integer.Decimal. -/
import Derived.Test.YtiogcdpmgomllaaIntJ
import Derived.Test.YtiogcdpmgomllaaIntD
import Derived.Test.YtiogcdpmgomllaaPlDec
import Derived.Deep.CutRange
import Derived.WalkMore
import Derived.Test.YtiogcdpmgomllaaCurD
set_option linter.unusedSimpArgs false
set_option linter.unusedVariables false
namespace Go.Proofs.Ytiogcdpmgomllaa.Int4
open Go.RowKit Kit Tlv Cur

/-- the state of Decimal's outer loop -/
def DecR (w0 wr : World) (v0 N g off m cm k c : Nat) (A : Option Addr) : Prop :=
  ∃ (l o : List UInt8), Seg wr w0.heap.size g off m l ∧ 1 ≤ m ∧ m ≤ cm ∧ cm ≤ maxLen ∧ Own wr w0.heap.size A k c o ∧ (∀ j, (Value.slice A k c).ownBlock = some j → g < j) ∧ Below w0.heap.size w0 wr ∧ DG v0 (be l) o ∧ k ≤ N ∧ be l < 10 ^ (N - k)
theorem DecR.start {w0 wr : World} {g n c N v0 : Nat} {l : List UInt8} (h : Own wr w0.heap.size (some ⟨g, 0, none⟩) n c l) (h1 : 1 ≤ n) (hb : Below w0.heap.size w0 wr) (hv : be l = v0) (hN : 3 * n ≤ N) : DecR w0 wr v0 N g 0 n c 0 0 none := by
  subst hv
  refine ⟨l, [], h.seg, h1, h.cap, h.capMax, Own.none_ _ _, (fun j hj => by cases hj), hb, DG.start _, Nat.zero_le _, ?_⟩
  have h2 := be_dec l
  rw [h.len] at h2
  exact Nat.lt_of_lt_of_le h2 (Nat.pow_le_pow_right (by omega) (by omega))
theorem DG.room {v0 v N k : Nat} {o : List UInt8} (hd : DG v0 v o) (hk : k ≤ N) (hb : v < 10 ^ (N - k)) (hl : o.length = k) (hN : 1 ≤ N) : k < N := by
  rcases Nat.lt_or_ge k N with h | h
  · exact h
  · exfalso
    rw [Nat.sub_eq_zero_of_le h, Nat.pow_zero] at hb
    rcases hd.2 with h' | h'
    · subst h'; simp at hl; omega
    · omega
theorem pow_step {v N k : Nat} (hk : k < N) (hb : v < 10 ^ (N - k)) : v / 10 < 10 ^ (N - (k + 1)) := by
  rw [show N - k = (N - (k + 1)) + 1 from by omega, Nat.pow_succ] at hb
  omega
/-- trimmed digits are none but one zero, exactly if the number is zero -/
theorem trim_zero {q t : List UInt8} (hz : trimZ q = t) (h1 : 1 ≤ q.length) : (be q = 0 → t.length = 1 ∧ bt t 0 = 0) ∧ (be q ≠ 0 → ¬ (t.length = 1 ∧ bt t 0 = 0)) := by
  obtain ⟨a, b, c, d, e⟩ := trimZ_ok q
  rw [hz] at a b c d
  have c1 := c h1
  have hq : beI q = ((be q : Nat) : Int) := rfl
  refine ⟨fun h => ?_, fun h hh => ?_⟩
  · rcases (by omega : t.length = 1 ∨ 2 ≤ t.length) with h2 | h2
    · exact ⟨h2, by have := beI_one h2; omega⟩
    · exfalso
      have d' := d h2
      obtain ⟨k, hk⟩ : ∃ k, t.length = k + 2 := ⟨t.length - 2, by omega⟩
      obtain ⟨r, e1, r0, r1⟩ := beI_two hk
      have b0 := bt_lo t 0
      have b1 := bt_lo t 1
      have pp := pw_pos k
      have m2 : 1 * pw k ≤ (bt t 0 * 256 + bt t 1) * pw k := Int.mul_le_mul_of_nonneg_right (by omega) (by omega)
      omega
  · have := beI_one hh.1; omega
theorem neg_val {l m : List UInt8} {cy : Int} (hl : m.length = l.length) (h : beI m + cy * pw l.length = pw l.length - beI l) (h0 : 0 ≤ cy) (h1 : cy ≤ 1) (h1l : 1 ≤ l.length) (hn : 128 ≤ bt l 0) : be m = 256 ^ l.length - be l := by
  have hb := beI_bd m
  have hb2 := beI_bd l
  have hp := pw_pos l.length
  have hpos : 0 < beI l := by
    have h2 := drop_beI (l := l) (j := 0) (by omega)
    rw [List.drop_zero] at h2
    have h3 := (beI_bd (l.drop (0 + 1))).1
    have pp := pw_pos (l.length - (0 + 1))
    have m2 : 1 * pw (l.length - (0 + 1)) ≤ bt l 0 * pw (l.length - (0 + 1)) := Int.mul_le_mul_of_nonneg_right (by omega) (by omega)
    omega
  have hcy : cy = 0 := by
    rcases (by omega : cy = 0 ∨ cy = 1) with h3 | h3
    · exact h3
    · rw [h3, Int.one_mul] at h; omega
  rw [hcy] at h
  unfold beI pw at *
  omega

set_option maxRecDepth 100000 in
set_option maxHeartbeats 8000000 in
theorem decimal_any {A : Option Addr} {n c B : Nat} {l : List UInt8} (w : World) (hr : Rd w B A n l) (hB : B ≤ w.heap.size) (hc : n ≤ c) (hm : c ≤ maxLen) (hn : n ≤ 1000) :
    Calls Try.prog 5 #[.slice A n c] w fun e w' => e = .returned (.string ⟨(decI l).toArray⟩) ∧ Below w.heap.size w w' := by
  have V := Lib.hid (valid_any (c := c) w hr hB)
  have hl := hr.len
  cases hv : validI l with
  | false =>
    have F := Lib.hid (show decI l = [] from by unfold decI; rw [if_pos hv])
    rw [F.out]
    rw [hv] at V
    clear hr hv hl
    go_enter Try.func5, Try.ntmps5
    go_wp2_with (go_at_call 14; refine V.out.mono ?_; rintro e w' ⟨rfl, rfl⟩)
    go_ret
    exact ⟨rfl, (by repeat' (first | (with_reducible exact Below.refl _ _) | (with_reducible assumption) | (with_reducible refine below_drewN ?_ _) | (with_reducible refine Below.drew ?_) | (with_reducible refine Below.alloc ?_ ?_ _) | (with_reducible refine Below.setCell ?_ ?_ _) | go_size))⟩
  | true =>
    have hp := valid_pos hv
    rw [hv] at V
    have HR := Lib.hid hr
    have CL := Lib.hid (Cur.clone_any A n c l w hr (by omega) hB)
    obtain ⟨ad, rfl, hbk, c0, _⟩ := two_at hr (by omega)
    have x0 := bt_lo l 0
    have x1 := bt_hi l 0
    have hp' : (0 : Int) < (n : Int) := by omega
    by_cases g : 128 ≤ bt l 0
    · have F := Lib.hid (show decI l = 45 :: decL (256 ^ l.length - be l) from by unfold decI; rw [if_neg (by simp [hv]), if_pos g])
      have an := and_hi x0 x1 g
      have NV := Lib.hid (fun m cy a b c d => neg_val (l := l) (m := m) (cy := cy) a b c d (by omega) g)
      have NG := Lib.hid (fun w1 (h : Rd w1 B (some ad) n l) (hB : B ≤ w1.heap.size) => negated_any (c := c) w1 h hB (by omega) (by omega))
      obtain ⟨v0, hv0⟩ : ∃ v, 256 ^ l.length - be l = v := ⟨_, rfl⟩
      rw [hv0] at F NV
      clear hv g hv0 hr
      generalize bt l 0 = x at *
      go_enter Try.func5, Try.ntmps5
      go_wp2_with fail
      refine V.out.mono ?_
      rintro e w' ⟨rfl, rfl⟩
      go_wp2_with fail
      refine CL.out.mono ?_
      rintro e w1 ⟨A1, c1, rfl, _, hb1⟩
      replace c0 : w1.cell? ad = some (.int .u8 x) := by rw [hb1.cell (by omega)]; exact c0
      have HR1 := Lib.hid (HR.out.below (hb1.mono hB))
      have z1 := hb1.size
      clear HR CL V
      go_wp2_with fail
      refine (NG.out _ HR1.out (by omega)).mono ?_
      rintro e w2 ⟨g1, cd, mm, cy, rfl, ho, hlm, hbe, hc0, hc1, hb2⟩
      have D0 := Lib.hid (DecR.start (N := 3 * n) (v0 := v0) (w0 := w) (ho.mono z1) (by omega) (hb1.trans (hb2.mono z1)) (NV.out _ _ hlm hbe hc0 hc1) (Nat.le_refl _))
      clear ho hlm hbe hc0 hc1 hb1 hb2 NV NG HR1 c0 an x0 x1 hl z1
      obtain ⟨N, hN, hN1, hN2⟩ : ∃ N, 3 * n = N ∧ 1 ≤ N ∧ N ≤ 3000 := ⟨_, rfl, by omega, by omega⟩
      rw [hN] at D0
      clear hN
      go_wp2
      go_loopw [3, 5] (fun d o wr => ∃ (gd off m cm k c : Nat) (A : Option Addr), d = .slice (some ⟨gd, off, none⟩) m cm ∧ o = .slice A k c ∧ Hid (DecR w wr v0 N gd off m cm k c A)) (fun _ o _ => match o with | .slice _ k _ => N - k | _ => 0)
      case atStart => exact ⟨_, _, _, _, _, _, _, rfl, rfl, D0⟩
      case round =>
        clear D0
        obtain ⟨gd, off, m, cm, k, c, A, rfl, rfl, hD⟩ := hrel
        obtain ⟨l, o, seg, h1, hmc, hmm, ho, hgo, bel, hdg, hk, hbe⟩ := hD.out
        clear hD
        have hkN := hdg.room hk hbe ho.len hN1
        have HDG := Lib.hid hdg
        have HBE := Lib.hid hbe
        have HL := Lib.hid seg.len
        have OL := Lib.hid ho.len
        unfold maxLen at hmm
        have hmcm : (m : Int) ≤ (cm : Int) := by omega
        have hm63 : (m : Int) ≤ 9223372036854775807 := by omega
        clear hdg hbe
        obtain ⟨wo, rfl⟩ : ∃ wo : World, wo = wr := ⟨_, rfl⟩
        go_wp2
        go_loopw [6, 7, 8, 23] (fun r u v i wq => ∃ (j : Nat) (rr : Int) (q : List UInt8), i = .int .i64 (j : Int) ∧ r = .int .i64 rr ∧ j ≤ m ∧ Seg wq w.heap.size gd off m q ∧ wo.grownBy wq (some gd) ∧ Hid (Div10 l q j rr)) (fun _ _ _ i _ => m - (intOf i).toNat)
        case atStart => exact ⟨0, 0, l, rfl, rfl, Nat.zero_le _, seg, World.grownBy.refl _ _, Lib.hid (Div10.start l)⟩
        case round =>
          obtain ⟨j, rr, q, rfl, rfl, hj, sq, hg, hd⟩ := hrel
          by_cases hlt : j < m
          · have ck := sq.cellAt hlt
            rw [hd.out.at_ (by rw [HL.out]; exact hlt)] at ck
            have ff := sq.frozenAt (off + j)
            have st := Lib.hid (hd.out.step (by rw [HL.out]; exact hlt))
            have b0 := bt_lo l j
            have b1 := bt_hi l j
            obtain ⟨_, _, _, r0, r1⟩ := hd.out
            have hs := Lib.hid (fun x h0 h1 => sq.stored j (x := x) h0 h1 hlt)
            have hgs := Lib.hid (fun u => grown_set hg (off + j) u)
            generalize bt l j = b at *
            have hor := i64_or_byte rr b b0 b1 (by omega) (by omega)
            have hm2 : (rr * 256 + b) / 10 % 256 = (rr * 256 + b) / 10 := by omega
            clear hd
            go_wp2
            go_roundw
            case rel => exact ⟨j + 1, _, _, by go_num, rfl, by omega, hs.out _ (by omega) (by omega), hgs.out _, st⟩
            case measure => simp [intOf]; omega
          · obtain rfl : j = m := by omega
            obtain ⟨w3, rfl⟩ : ∃ w3 : World, w3 = wr := ⟨_, rfl⟩
            obtain ⟨e1, e2⟩ := Div10.stop (by rw [HL.out]; exact hd.out)
            obtain ⟨_, _, _, r0, r1⟩ := hd.out
            have E1 := Lib.hid e1
            have E2 := Lib.hid e2
            have ho3 : Own w3 w.heap.size A k c o := ho.grown hg (fun i hi e => by injection hi with hi; have := hgo _ e; omega)
            have bel3 := bel.grown hg bel.size (fun i hi => by injection hi with hi; have := seg.lt.1; omega)
            have z3 := bel3.size
            have g3 := sq.lt
            clear hd e1 e2 seg ho hg bel
            go_upto_region 17 with (first | (at_builtin; refine appL [48 + rr] rfl (.tmp 42) (.tmp 46) rfl rfl ho3 rfl (in1 (by omega) (by omega)) (by simp; omega) z3 ?_; intro A4 c4 w4 ho4 hg4 hb4 hs4))
            replace ho4 : Own w4 w.heap.size A4 (k + 1) c4 (o ++ [48 + rr].map ofI) := ho4
            have s4 : Seg w4 w.heap.size gd off j q := (sq.alloc _).grown hg4 (fun i hi e => by have := hgo _ hi; omega)
            have hg5 : ∀ i, (Value.slice A4 (k + 1) c4).ownBlock = some i → gd < i := fun i hi => by
              rcases hs4 with h | h
              · exact hgo i (h.symm.trans hi)
              · have := h.symm.trans hi; injection this with this; omega
            have bel4 := bel3.trans hb4
            have z4 := bel4.size
            rw [E2.out] at ho4
            have HOL := Lib.hid (show o.length = k from OL.out)
            clear ho3 hg4 hb4 hs4 sq hgo bel3 z3 g3
            go_wp2_with fail
            refine (trim_any _ s4.rd (Nat.le_refl _) hmc (by unfold maxLen; omega)).mono ?_
            rintro e w' ⟨k2, rfl, hz, hk2, hk3, rfl⟩
            have s5 := s4.drop hk2
            have m2p : 1 ≤ j - k2 := by omega
            have TZ := Lib.hid (trim_zero hz (by rw [s4.len]; exact h1))
            have BQ := Lib.hid (show be (q.drop k2) = be l / 10 from by
              have h2 := (trimZ_ok q).1; rw [hz] at h2; have h3 := E1.out; unfold beI at h2; omega)
            obtain ⟨off2, ho2⟩ : ∃ x, off + k2 = x := ⟨_, rfl⟩
            obtain ⟨m2, hm2⟩ : ∃ x, j - k2 = x := ⟨_, rfl⟩
            obtain ⟨cm2, hcm2⟩ : ∃ x, cm - k2 = x := ⟨_, rfl⟩
            simp only [Option.map_some, Kit.add_plain]
            rw [ho2, hm2] at s5
            rw [ho2, hm2, hcm2]
            rw [hm2] at m2p
            have HT := Lib.hid s5.len
            have c5 := s5.cellAt (k := 0) (by omega)
            rw [Nat.add_zero] at c5
            have hmc2 : m2 ≤ cm2 := by omega
            have hcc2 : cm2 ≤ maxLen := by unfold maxLen; omega
            have hm0 : (0 : Int) < (m2 : Int) := by omega
            clear ho2 hm2 hcm2 hz hk2 hk3 s4
            generalize q.drop k2 = t at *
            by_cases hq : be l / 10 = 0
            · obtain ⟨t1, t2⟩ := TZ.out.1 (by rw [E1.out]; exact hq)
              obtain rfl : m2 = 1 := by rw [← HT.out]; exact t1
              rw [t2] at c5
              have DS := Lib.hid (HDG.out.stop hq)
              obtain ⟨ga, rfl⟩ := ho4.shape (by omega)
              clear TZ t1 t2 BQ HT s5 hg5 hq
              go_wp2_with fail
              refine (reverse_any _ _ _ _ _ _ ho4).mono ?_
              rintro e w5 ⟨rfl, ho5, hg5⟩
              have DS' := DS.out
              have hdl : (decL v0).length ≤ 3001 := by rw [DS', List.length_reverse, List.length_append, List.length_singleton]; have := HOL.out; omega
              simp only [List.map_cons, List.map_nil] at ho5
              rw [← DS'] at ho5
              have bel5 := bel4.grown hg5 bel4.size (fun i hi => by injection hi with hi; have := ho4.lt.1; omega)
              have hst := run_str (P := Try.prog) (c := c4) ho5.rd 22 5 9 Try.underlying22 Try.underlying5 Try.underlying9
              clear ho4 ho5 hg5 DS' DS
              generalize decL v0 = D at *
              go_wp2
              go_ret
              rw [F.out]
              exact ⟨(by first | rfl | (congr 1; done) | (simp; done)), bel5⟩
            · have DS := Lib.hid (HDG.out.step hq)
              have hx := TZ.out.2 (by rw [E1.out]; exact hq)
              rw [HT.out] at hx
              have R := Lib.hid (show DecR w w4 v0 N gd off2 m2 cm2 (k + 1) c4 A4 from ⟨t, _, s5, m2p, hmc2, hcc2, ho4, hg5, bel4, by rw [BQ.out]; exact DS.out, by omega, by rw [BQ.out]; exact pow_step hkN HBE.out⟩)
              clear TZ BQ s5 hg5 hq ho4 DS bel4
              by_cases h2 : m2 = 1
              · have gb : (bt t 0 == 0) = false := by rw [beq_eq_false_iff_ne]; intro h; exact hx ⟨h2, h⟩
                subst h2
                clear hx
                generalize bt t 0 = y at *
                go_wp2
                go_roundw
                case rel => exact ⟨_, _, _, _, _, _, _, rfl, rfl, R⟩
                case measure => show N - (k + 1) < N - k; omega
              · have h2' : ¬ (m2 : Int) = 1 := by omega
                clear hx
                generalize bt t 0 = y at *
                go_wp2
                go_roundw
                case rel => exact ⟨_, _, _, _, _, _, _, rfl, rfl, R⟩
                case measure => show N - (k + 1) < N - k; omega
    · have F := Lib.hid (show decI l = decL (be l) from by unfold decI; rw [if_neg (by simp [hv]), if_neg g])
      have an := and_lo x0 x1 g
      obtain ⟨v0, hv0⟩ : ∃ v, be l = v := ⟨_, rfl⟩
      have HV := Lib.hid hv0
      rw [hv0] at F
      clear hv g hv0 hr HR
      generalize bt l 0 = x at *
      go_enter Try.func5, Try.ntmps5
      go_wp2_with fail
      refine V.out.mono ?_
      rintro e w' ⟨rfl, rfl⟩
      go_wp2_with fail
      refine CL.out.mono ?_
      rintro e w2 ⟨A1, c1, rfl, ho, hb1⟩
      replace c0 : w2.cell? ad = some (.int .u8 x) := by rw [hb1.cell (by omega)]; exact c0
      obtain ⟨g1, rfl⟩ := ho.shape (by omega)
      have D0 := Lib.hid (DecR.start (N := 3 * n) (v0 := v0) (w0 := w) ho (by omega) hb1 HV.out (Nat.le_refl _))
      clear CL V ho hb1 HV x0 x1 hl
      obtain ⟨N, hN, hN1, hN2⟩ : ∃ N, 3 * n = N ∧ 1 ≤ N ∧ N ≤ 3000 := ⟨_, rfl, by omega, by omega⟩
      rw [hN] at D0
      clear hN
      go_wp2
      clear c0
      go_loopw [3, 5] (fun d o wr => ∃ (gd off m cm k c : Nat) (A : Option Addr), d = .slice (some ⟨gd, off, none⟩) m cm ∧ o = .slice A k c ∧ Hid (DecR w wr v0 N gd off m cm k c A)) (fun _ o _ => match o with | .slice _ k _ => N - k | _ => 0)
      case atStart => exact ⟨_, _, _, _, _, _, _, rfl, rfl, D0⟩
      case round =>
        clear D0
        obtain ⟨gd, off, m, cm, k, c, A, rfl, rfl, hD⟩ := hrel
        obtain ⟨l, o, seg, h1, hmc, hmm, ho, hgo, bel, hdg, hk, hbe⟩ := hD.out
        clear hD
        have hkN := hdg.room hk hbe ho.len hN1
        have HDG := Lib.hid hdg
        have HBE := Lib.hid hbe
        have HL := Lib.hid seg.len
        have OL := Lib.hid ho.len
        unfold maxLen at hmm
        have hmcm : (m : Int) ≤ (cm : Int) := by omega
        have hm63 : (m : Int) ≤ 9223372036854775807 := by omega
        clear hdg hbe
        obtain ⟨wo, rfl⟩ : ∃ wo : World, wo = wr := ⟨_, rfl⟩
        go_wp2
        go_loopw [6, 7, 8, 23] (fun r u v i wq => ∃ (j : Nat) (rr : Int) (q : List UInt8), i = .int .i64 (j : Int) ∧ r = .int .i64 rr ∧ j ≤ m ∧ Seg wq w.heap.size gd off m q ∧ wo.grownBy wq (some gd) ∧ Hid (Div10 l q j rr)) (fun _ _ _ i _ => m - (intOf i).toNat)
        case atStart => exact ⟨0, 0, l, rfl, rfl, Nat.zero_le _, seg, World.grownBy.refl _ _, Lib.hid (Div10.start l)⟩
        case round =>
          obtain ⟨j, rr, q, rfl, rfl, hj, sq, hg, hd⟩ := hrel
          by_cases hlt : j < m
          · have ck := sq.cellAt hlt
            rw [hd.out.at_ (by rw [HL.out]; exact hlt)] at ck
            have ff := sq.frozenAt (off + j)
            have st := Lib.hid (hd.out.step (by rw [HL.out]; exact hlt))
            have b0 := bt_lo l j
            have b1 := bt_hi l j
            obtain ⟨_, _, _, r0, r1⟩ := hd.out
            have hs := Lib.hid (fun x h0 h1 => sq.stored j (x := x) h0 h1 hlt)
            have hgs := Lib.hid (fun u => grown_set hg (off + j) u)
            generalize bt l j = b at *
            have hor := i64_or_byte rr b b0 b1 (by omega) (by omega)
            have hm2 : (rr * 256 + b) / 10 % 256 = (rr * 256 + b) / 10 := by omega
            clear hd
            go_wp2
            go_roundw
            case rel => exact ⟨j + 1, _, _, by go_num, rfl, by omega, hs.out _ (by omega) (by omega), hgs.out _, st⟩
            case measure => simp [intOf]; omega
          · obtain rfl : j = m := by omega
            obtain ⟨w3, rfl⟩ : ∃ w3 : World, w3 = wr := ⟨_, rfl⟩
            obtain ⟨e1, e2⟩ := Div10.stop (by rw [HL.out]; exact hd.out)
            obtain ⟨_, _, _, r0, r1⟩ := hd.out
            have E1 := Lib.hid e1
            have E2 := Lib.hid e2
            have ho3 : Own w3 w.heap.size A k c o := ho.grown hg (fun i hi e => by injection hi with hi; have := hgo _ e; omega)
            have bel3 := bel.grown hg bel.size (fun i hi => by injection hi with hi; have := seg.lt.1; omega)
            have z3 := bel3.size
            have g3 := sq.lt
            clear hd e1 e2 seg ho hg bel
            go_upto_region 17 with (first | (at_builtin; refine appL [48 + rr] rfl (.tmp 42) (.tmp 46) rfl rfl ho3 rfl (in1 (by omega) (by omega)) (by simp; omega) z3 ?_; intro A4 c4 w4 ho4 hg4 hb4 hs4))
            replace ho4 : Own w4 w.heap.size A4 (k + 1) c4 (o ++ [48 + rr].map ofI) := ho4
            have s4 : Seg w4 w.heap.size gd off j q := (sq.alloc _).grown hg4 (fun i hi e => by have := hgo _ hi; omega)
            have hg5 : ∀ i, (Value.slice A4 (k + 1) c4).ownBlock = some i → gd < i := fun i hi => by
              rcases hs4 with h | h
              · exact hgo i (h.symm.trans hi)
              · have := h.symm.trans hi; injection this with this; omega
            have bel4 := bel3.trans hb4
            have z4 := bel4.size
            rw [E2.out] at ho4
            have HOL := Lib.hid (show o.length = k from OL.out)
            clear ho3 hg4 hb4 hs4 sq hgo bel3 z3 g3
            go_wp2_with fail
            refine (trim_any _ s4.rd (Nat.le_refl _) hmc (by unfold maxLen; omega)).mono ?_
            rintro e w' ⟨k2, rfl, hz, hk2, hk3, rfl⟩
            have s5 := s4.drop hk2
            have m2p : 1 ≤ j - k2 := by omega
            have TZ := Lib.hid (trim_zero hz (by rw [s4.len]; exact h1))
            have BQ := Lib.hid (show be (q.drop k2) = be l / 10 from by
              have h2 := (trimZ_ok q).1; rw [hz] at h2; have h3 := E1.out; unfold beI at h2; omega)
            obtain ⟨off2, ho2⟩ : ∃ x, off + k2 = x := ⟨_, rfl⟩
            obtain ⟨m2, hm2⟩ : ∃ x, j - k2 = x := ⟨_, rfl⟩
            obtain ⟨cm2, hcm2⟩ : ∃ x, cm - k2 = x := ⟨_, rfl⟩
            simp only [Option.map_some, Kit.add_plain]
            rw [ho2, hm2] at s5
            rw [ho2, hm2, hcm2]
            rw [hm2] at m2p
            have HT := Lib.hid s5.len
            have c5 := s5.cellAt (k := 0) (by omega)
            rw [Nat.add_zero] at c5
            have hmc2 : m2 ≤ cm2 := by omega
            have hcc2 : cm2 ≤ maxLen := by unfold maxLen; omega
            have hm0 : (0 : Int) < (m2 : Int) := by omega
            clear ho2 hm2 hcm2 hz hk2 hk3 s4
            generalize q.drop k2 = t at *
            by_cases hq : be l / 10 = 0
            · obtain ⟨t1, t2⟩ := TZ.out.1 (by rw [E1.out]; exact hq)
              obtain rfl : m2 = 1 := by rw [← HT.out]; exact t1
              rw [t2] at c5
              have DS := Lib.hid (HDG.out.stop hq)
              obtain ⟨ga, rfl⟩ := ho4.shape (by omega)
              clear TZ t1 t2 BQ HT s5 hg5 hq
              go_wp2_with fail
              refine (reverse_any _ _ _ _ _ _ ho4).mono ?_
              rintro e w5 ⟨rfl, ho5, hg5⟩
              have DS' := DS.out
              have hdl : (decL v0).length ≤ 3001 := by rw [DS', List.length_reverse, List.length_append, List.length_singleton]; have := HOL.out; omega
              simp only [List.map_cons, List.map_nil] at ho5
              rw [← DS'] at ho5
              have bel5 := bel4.grown hg5 bel4.size (fun i hi => by injection hi with hi; have := ho4.lt.1; omega)
              have hst := run_str (P := Try.prog) (c := c4) ho5.rd 22 5 9 Try.underlying22 Try.underlying5 Try.underlying9
              clear ho4 ho5 hg5 DS' DS
              generalize decL v0 = D at *
              go_wp2
              go_ret
              rw [F.out]
              exact ⟨(by first | rfl | (congr 1; done) | (simp; done)), bel5⟩
            · have DS := Lib.hid (HDG.out.step hq)
              have hx := TZ.out.2 (by rw [E1.out]; exact hq)
              rw [HT.out] at hx
              have R := Lib.hid (show DecR w w4 v0 N gd off2 m2 cm2 (k + 1) c4 A4 from ⟨t, _, s5, m2p, hmc2, hcc2, ho4, hg5, bel4, by rw [BQ.out]; exact DS.out, by omega, by rw [BQ.out]; exact pow_step hkN HBE.out⟩)
              clear TZ BQ s5 hg5 hq ho4 DS bel4
              by_cases h2 : m2 = 1
              · have gb : (bt t 0 == 0) = false := by rw [beq_eq_false_iff_ne]; intro h; exact hx ⟨h2, h⟩
                subst h2
                clear hx
                generalize bt t 0 = y at *
                go_wp2
                go_roundw
                case rel => exact ⟨_, _, _, _, _, _, _, rfl, rfl, R⟩
                case measure => show N - (k + 1) < N - k; omega
              · have h2' : ¬ (m2 : Int) = 1 := by omega
                clear hx
                generalize bt t 0 = y at *
                go_wp2
                go_roundw
                case rel => exact ⟨_, _, _, _, _, _, _, rfl, rfl, R⟩
                case measure => show N - (k + 1) < N - k; omega
end Go.Proofs.Ytiogcdpmgomllaa.Int4
