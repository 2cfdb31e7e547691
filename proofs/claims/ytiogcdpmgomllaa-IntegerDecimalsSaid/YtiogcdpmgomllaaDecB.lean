/- Walks: sum of the reference of integers. -/
import Derived.Test.YtiogcdpmgomllaaDecA
import Derived.Test.YtiogcdpmgomllaaIntG
set_option linter.unusedSimpArgs false
set_option linter.unusedVariables false
namespace Go.Proofs.Ytiogcdpmgomllaa.Int4
open Go.RowKit Kit Tlv

/-- two numbers' digits, added from the last ones on -/
def SumR (o b m : List UInt8) (i : Nat) (cy : Int) : Prop :=
  m.length = o.length ∧ i ≤ o.length ∧ m.take (o.length - i) = o.take (o.length - i) ∧ beI (m.drop (o.length - i)) + cy * pw i = beI (o.drop (o.length - i)) + beI (b.drop (b.length - i)) ∧ 0 ≤ cy ∧ cy ≤ 1
theorem SumR.start (o b : List UInt8) : SumR o b o 0 0 := by
  refine ⟨rfl, Nat.zero_le _, rfl, ?_, by omega, by omega⟩
  rw [Nat.sub_zero, Nat.sub_zero, List.drop_length, List.drop_length, beI_nil, pw_zero]
  omega
theorem SumR.at_ {o b m : List UInt8} {i k : Nat} {cy : Int} (h : SumR o b m i cy) (hk : k + i + 1 = o.length) : bt m k = bt o k := by
  have h1 : bt (m.take (o.length - i)) k = bt (o.take (o.length - i)) k := by rw [h.2.2.1]
  rwa [bt_take (by omega), bt_take (by omega)] at h1
theorem SumR.step {o b m : List UInt8} {i k : Nat} {cy d : Int} (h : SumR o b m i cy) (hk : k + i + 1 = o.length) (hd : beI (b.drop (b.length - (i + 1))) = d * pw i + beI (b.drop (b.length - i))) (d0 : 0 ≤ d) (d1 : d ≤ 255) :
    SumR o b (m.set k (ofI ((cy + bt m k + d) % 256))) (i + 1) ((cy + bt m k + d) / 256) := by
  have ha := h.at_ hk
  obtain ⟨h1, h2, h3, h4, h5, h6⟩ := h
  have b0 := bt_lo m k
  have b1 := bt_hi m k
  have e0 : o.length - (i + 1) = k := by omega
  have e1 : o.length - i = k + 1 := by omega
  rw [e1] at h3 h4
  refine ⟨by simp [h1], by omega, ?_, ?_, by omega, by omega⟩
  · rw [e0]
    have := congrArg (List.take k) h3
    rw [List.take_take, List.take_take, Nat.min_eq_left (by omega)] at this
    rw [List.take_set_of_le (Nat.le_refl _)]
    exact this
  · rw [e0]
    have hm : k < (m.set k (ofI ((cy + bt m k + d) % 256))).length := by simp; omega
    have ho : k < o.length := by omega
    have e : bt (m.set k (ofI ((cy + bt m k + d) % 256))) k = (cy + bt m k + d) % 256 := by
      rw [bt_eq hm, List.getElem_set_self, ofI_toNat (by omega) (by omega)]
    rw [drop_beI' hm, drop_beI' ho, e, List.length_set, h1, List.drop_set_of_lt (by omega), hd, show o.length - (k + 1) = i from by omega, pw_succ, ← ha]
    have h7 : (cy + bt m k + d) % 256 + (cy + bt m k + d) / 256 * 256 = cy + bt m k + d := by omega
    generalize pw i = P at *
    have e2 : (cy + bt m k + d) % 256 * P + (cy + bt m k + d) / 256 * (P * 256) = (cy + bt m k + d) * P := by
      rw [← Int.mul_assoc, Int.mul_right_comm, ← Int.add_mul, h7]
    have e3 : (cy + bt m k + d) * P = cy * P + bt m k * P + d * P := by rw [Int.add_mul, Int.add_mul]
    omega
theorem SumR.digit {b : List UInt8} {i q : Nat} (hq : q + i + 1 = b.length) : beI (b.drop (b.length - (i + 1))) = bt b q * pw i + beI (b.drop (b.length - i)) := by
  rw [show b.length - (i + 1) = q from by omega, show b.length - i = q + 1 from by omega, drop_beI' (by omega), show b.length - (q + 1) = i from by omega]
theorem SumR.none_ {b : List UInt8} {i : Nat} (hq : b.length ≤ i) : beI (b.drop (b.length - (i + 1))) = 0 * pw i + beI (b.drop (b.length - i)) := by
  rw [show b.length - (i + 1) = 0 from by omega, show b.length - i = 0 from by omega]
  omega
theorem SumR.stop {a b m : List UInt8} {cy : Int} (h : SumR (0 :: a) b m (0 :: a).length cy) (hb : b.length ≤ a.length) : m.length = a.length + 1 ∧ beI m = beI a + beI b := by
  obtain ⟨h1, h2, h3, h4, h5, h6⟩ := h
  rw [Nat.sub_self, List.drop_zero, List.drop_zero, show b.length - (0 :: a).length = 0 from by simp; omega, List.drop_zero, beI_z] at h4
  refine ⟨by simpa using h1, ?_⟩
  have p1 := beI_bd a
  have p2 := beI_bd b
  have p3 := pw_le hb
  have p4 : pw (0 :: a).length = pw a.length * 256 := pw_succ _
  have p5 := beI_bd m
  rw [p4] at h4
  have hc : cy = 0 := by
    rcases (by omega : cy = 0 ∨ cy = 1) with h | h
    · exact h
    · rw [h] at h4; omega
  rw [hc] at h4
  omega
/-- a slice that can be read comes back: digits of a number -/
def SumP (w : World) (v : Int) (lo hi : Nat) (e : Ending) (w' : World) : Prop :=
  ∃ (u : List UInt8) (A : Option Addr) (c : Nat), e = .returned (.slice A u.length c) ∧ Rd w' w'.heap.size A u.length u ∧ u.length ≤ c ∧ c ≤ maxLen ∧ Below w.heap.size w w' ∧ beI u = v ∧ lo ≤ u.length ∧ u.length ≤ hi
theorem SumP.mk {w w' : World} {u : List UInt8} {v : Int} {lo hi n c : Nat} {A : Option Addr} (hr : Rd w' w'.heap.size A n u) (hc : n ≤ c) (hm : c ≤ maxLen) (hb : Below w.heap.size w w') (hv : beI u = v) (h1 : lo ≤ n) (h2 : n ≤ hi) : SumP w v lo hi (.returned (.slice A n c)) w' := by
  have hl := hr.len
  subst hl
  exact ⟨u, A, c, rfl, hr, hc, hm, hb, hv, h1, h2⟩
/-- the pieces of the loop that cuts zeros off -/
def CutS (w : World) (v : Int) (lo hi : Nat) (p : Addr) (m cm : Nat) : Prop := ∃ l, Rd w w.heap.size (some p) m l ∧ beI l = v ∧ lo ≤ m ∧ m ≤ hi ∧ 1 ≤ m ∧ m ≤ cm ∧ cm ≤ maxLen

set_option maxRecDepth 100000 in
set_option maxHeartbeats 4000000 in
theorem sum_any {A A2 : Option Addr} {n c m c2 B : Nat} {a b : List UInt8} (w : World) (hr : Rd w B A n a) (hr2 : Rd w B A2 m b) (hB : B ≤ w.heap.size) (hn : n ≤ 1000000) (hp : 1 ≤ m) (hmn : m ≤ n) :
    Calls Try.prog 22 #[.slice A n c, .slice A2 m c2] w (SumP w (beI a + beI b) m (n + 1)) := by
  have hl := hr.len
  have hl2 := hr2.len
  obtain ⟨ad, rfl, hbk, hcell⟩ := hr2.all_ (by omega)
  have ow := Own.lit (base := w.heap.size) w [0] (Nat.le_refl _) (by simp [maxLen])
  have q' := hr.alloc hB (.cells (vs [0]).toArray 5)
  have hba : Below w.heap.size w (w.alloc (.cells (vs [0]).toArray 5)) := (Below.refl _ _).alloc (Nat.le_refl _) _
  have CB := Lib.hid (fun (X : World) (h : Below w.heap.size w X) (k : Nat) (hk : k < m) => show X.cell? (ad.add k) = some (.int .u8 (bt b k)) from by rw [h.cell (by rw [block_add]; omega)]; exact hcell k hk)
  have S0 := Lib.hid (SumR.start (0 :: a) b)
  have ST := Lib.hid (fun mm i k cy d (h : SumR (0 :: a) b mm i cy) (hk : k + i + 1 = n + 1) hd d0 d1 => SumR.step (d := d) h (by simpa [hl] using hk) hd d0 d1)
  have DG := Lib.hid (fun i q (hq : q + i + 1 = m) => SumR.digit (b := b) (i := i) (q := q) (by omega))
  have DN := Lib.hid (fun i (hq : m ≤ i) => SumR.none_ (b := b) (i := i) (by omega))
  have EN := Lib.hid (fun mm cy (h : SumR (0 :: a) b mm (n + 1) cy) => SumR.stop (a := a) (cy := cy) (by simpa [hl] using h) (by omega))
  have BB := Lib.hid (fun k => And.intro (bt_lo b k) (bt_hi b k))
  have hbw : ad.block < w.heap.size := by omega
  generalize beI a + beI b = V at *
  clear hr hr2 hcell hl hl2
  go_enter Try.func22, Try.ntmps22
  go_upto_region 2 with (first | (at_builtin; go_must (refine app rfl (.tmp 9) (.tmp 10) rfl rfl ow rfl q' (by first | omega | (simp; omega)) (by simp) ?_); intro A4 c4 w4 ho4 hg4 hb4 hs4; (try simp only [List.length_cons, List.length_nil, Nat.zero_add] at ho4); replace ho4 : Own w4 w.heap.size A4 (1 + n) c4 (0 :: a) := ho4))
  have bel := hba.trans hb4
  obtain ⟨N, hN⟩ : ∃ N, 1 + n = N := ⟨_, rfl⟩
  rw [hN] at ho4 ⊢
  have OW := Lib.hid ho4
  have BE := Lib.hid bel
  have hcap := ho4.cap
  have hcm := ho4.capMax
  clear ow q' hba hg4 hb4 hs4 ho4 bel
  go_wp2
  go_loopw [6, 7] (fun cy i wr => ∃ (i' : Nat) (mm : List UInt8) (y : Int), i' ≤ N ∧ i = .int .i64 ((i' : Int) + 1) ∧ cy = .int .i64 y ∧ Own wr w.heap.size A4 N c4 mm ∧ Below w.heap.size w wr ∧ Hid (SumR (0 :: a) b mm i' y) ∧ 0 ≤ y ∧ y ≤ 1)
    (fun _ i _ => N + 1 - (intOf i).toNat)
  case atStart => exact ⟨0, 0 :: a, 0, Nat.zero_le _, rfl, rfl, OW.out, BE.out, S0, by omega, by omega⟩
  case round =>
    obtain ⟨i, mm, y, hi, rfl, rfl, ho, hbe, hS, y0, y1⟩ := hrel
    clear OW BE S0
    by_cases h0 : i < N
    · obtain ⟨k, hk⟩ : ∃ k, k + i + 1 = N := ⟨N - (i + 1), by omega⟩
      have hiz : (i : Int) + 1 ≤ (N : Int) := by omega
      have hkz : (N : Int) - ((i : Int) + 1) = (k : Int) := by omega
      have hkN : (k : Int) < (N : Int) := by omega
      obtain ⟨g, rfl⟩ := ho.shape (by omega)
      have hge := Own.lt ho
      have cc := ho.cellAt (k := k) (by omega)
      have ff := ho.frozenAt k
      have b0 := bt_lo mm k
      have b1 := bt_hi mm k
      have hs := Lib.hid (fun x h0 h1 => ho.stored k (x := x) h0 h1)
      have hbs := Lib.hid (fun u => Below.setCell hbe (p := ⟨g, k, none⟩) hge.1 u)
      have hadw : ad.block < wr.heap.size := Nat.lt_of_lt_of_le hbw hbe.size
      by_cases hb : i + 1 ≤ m
      · obtain ⟨q, hq⟩ : ∃ q, q + i + 1 = m := ⟨m - (i + 1), by omega⟩
        have hbz : (i : Int) + 1 ≤ (m : Int) := by omega
        have hqz : (m : Int) - ((i : Int) + 1) = (q : Int) := by omega
        have hqm : (q : Int) < (m : Int) := by omega
        have cb := CB.out wr hbe q (by omega)
        obtain ⟨d0, d1⟩ := BB.out q
        have hst := Lib.hid (ST.out mm i k y (bt b q) hS.out (by omega) (DG.out i q hq) d0 d1)
        generalize bt mm k = x at *
        generalize bt b q = d at *
        have z0 : 0 ≤ (y + x + d) % 256 := by omega
        have z1 : (y + x + d) % 256 ≤ 255 := by omega
        have q0 : 0 ≤ (y + x + d) / 256 := by omega
        have q1 : (y + x + d) / 256 ≤ 1 := by omega
        clear hS ho hbe ST DG DN EN BB CB
        go_wp2
        go_roundw
        case rel => exact ⟨i + 1, _, _, by omega, by rw [Int.natCast_add]; rfl, rfl, hs.out _ z0 z1, hbs.out _, hst, q0, q1⟩
        case measure => simp [intOf]; omega
      · have hbz : ¬ ((i : Int) + 1 ≤ (m : Int)) := by omega
        have hst := Lib.hid (ST.out mm i k y 0 hS.out (by omega) (DN.out i (by omega)) (by omega) (by omega))
        rw [Int.add_zero] at hst
        generalize bt mm k = x at *
        have z0 : 0 ≤ (y + x) % 256 := by omega
        have z1 : (y + x) % 256 ≤ 255 := by omega
        have q0 : 0 ≤ (y + x) / 256 := by omega
        have q1 : (y + x) / 256 ≤ 1 := by omega
        clear hS ho hbe ST DG DN EN BB CB
        go_wp2
        go_roundw
        case rel => exact ⟨i + 1, _, _, by omega, by rw [Int.natCast_add]; rfl, rfl, hs.out _ z0 z1, hbs.out _, hst, q0, q1⟩
        case measure => simp [intOf]; omega
    · obtain ⟨e1, e2⟩ := EN.out mm y (by rw [show n + 1 = i from by omega]; exact hS.out)
      have hiz : ¬ ((i : Int) + 1 ≤ (N : Int)) := by omega
      obtain ⟨g, rfl⟩ := ho.shape (by omega)
      have C0 : CutS wr V m (n + 1) ⟨g, 0, none⟩ N c4 := ⟨mm, ho.rd, e2, by omega, by omega, by omega, hcap, hcm⟩
      have BE := Lib.hid hbe
      have START := Lib.hid C0
      rename World => w5
      clear hS ho hbe ST DG DN EN BB CB C0 e1 e2 hi h0
      go_wp2
      go_loop [5] (fun s => ∃ (p : Addr) (k cm : Nat), s = .slice (some p) k cm ∧ CutS w5 V m (n + 1) p k cm) (fun s => match s with | .slice _ k _ => k | _ => 0)
      case atStart => exact ⟨_, _, _, rfl, START.out⟩
      case round =>
        clear START
        obtain ⟨p, k, cm, rfl, l', hr, hv, h1, h2, h3, h4, h5⟩ := hrel
        obtain ⟨ad', hp', hbk', hcl⟩ := hr.all_ (by omega)
        injection hp' with hp'
        subst hp'
        have c0 := hcl 0 (by omega)
        rw [show p.add 0 = p from rfl] at c0
        have hdr := drop_beI' (l := l') (j := 0) (by have := hr.len; omega)
        rw [List.drop_zero, Nat.zero_add] at hdr
        unfold maxLen at h5
        by_cases hlm : m < k
        · have hlz : (m : Int) < (k : Int) := by omega
          have hcm0 : ¬ cm = 1 := by omega
          have hcm1 : (1 : Int) ≤ (cm : Int) := by omega
          have hk1 : (1 : Int) ≤ (k : Int) := by omega
          have hk0 : (0 : Int) < (k : Int) := by omega
          by_cases hz : bt l' 0 = 0
          · have R' := Lib.hid (show CutS w5 V m (n + 1) ⟨p.block, p.off + 1, none⟩ (k - 1) (cm - 1) from
              ⟨l'.drop 1, tail1 hr h3 h4 hcm0, by rw [hz] at hdr; omega, by omega, by omega, by omega, by omega, by unfold maxLen; omega⟩)
            rw [hz] at c0
            clear hr hv hdr hcl hz
            go_wp2
            go_round
            case rel => exact ⟨_, _, _, rfl, R'.out⟩
            case measure => show k - 1 < k; omega
          · have hzb : (bt l' 0 == 0) = false := beq_eq_false_iff_ne.2 hz
            have FIN := Lib.hid (SumP.mk hr h4 (by unfold maxLen; omega) BE.out hv h1 h2)
            generalize bt l' 0 = x at *
            clear hr hv hdr hcl
            go_wp2
            go_ret
            exact FIN.out
        · have hlz : ¬ (m : Int) < (k : Int) := by omega
          have FIN := Lib.hid (SumP.mk hr h4 (by unfold maxLen; omega) BE.out hv h1 h2)
          clear hr hv hdr hcl
          go_wp2
          go_ret
          exact FIN.out
end Go.Proofs.Ytiogcdpmgomllaa.Int4
