/- Joined texts: PlVal, ValA, ValR, ValB, ValC. -/
import Derived.Deep.DeepFit
import Derived.Test.YtnpmgofkfdpbjaaKL
import Derived.Test.YtnpmgofkfdpbjaaKD
import Derived.Test.YtnpmgofkfdpbjaaKN
import Derived.Test.YtnpmgofkfdpbjaaKF
set_option linter.unusedSimpArgs false
set_option linter.unusedVariables false
/- Plain: the encoding of a time of a certificate. No program in sight. -/
namespace Go.Proofs.Ytnpmgofkfdpbjaa.Val
open Kit Tlv

/-- is a point in time a time of a certificate? -/
def valB (y m d h mi s : Int) : Bool := Clk.validB y m d h mi s && decide (1950 ≤ y)
def valC (y m d h mi s : Int) : Int := if valB y m d h mi s = true then 0 else 8
def valL (y m d h mi s : Int) : List UInt8 :=
  if valB y m d h mi s = true then (if y ≤ 2049 then encL 0 false 23 (Clk.utcL y m d h mi s) else encL 0 false 24 (Clk.genL y m d h mi s)) else []
theorem utcL_len (y m d h mi s : Int) : (Clk.utcL y m d h mi s).length = 13 := rfl
theorem genL_len (y m d h mi s : Int) : (Clk.genL y m d h mi s).length = 15 := rfl
theorem val_no {y m d h mi s : Int} (hv : valB y m d h mi s = false) : valC y m d h mi s = 8 ∧ valL y m d h mi s = [] := by
  unfold valC valL; simp [hv]
theorem val_utc {y m d h mi s : Int} (hv : valB y m d h mi s = true) (hy : y ≤ 2049) :
    valC y m d h mi s = 0 ∧ valL y m d h mi s = encL 0 false 23 (Clk.utcL y m d h mi s) ∧ Clk.utcCode y m d h mi s = 0 ∧ Clk.utcBytes y m d h mi s = Clk.utcL y m d h mi s ∧ Clk.validB y m d h mi s = true ∧ 1950 ≤ y := by
  have h2 := hv
  unfold valB at h2
  simp only [Bool.and_eq_true, decide_eq_true_eq] at h2
  have hc : Clk.utcCode y m d h mi s = 0 := by unfold Clk.utcCode; rw [if_pos h2.1, if_neg (by omega)]
  refine ⟨by unfold valC; rw [if_pos hv], by unfold valL; rw [if_pos hv, if_pos hy], hc, by unfold Clk.utcBytes; rw [if_pos hc], h2.1, h2.2⟩
theorem val_gen {y m d h mi s : Int} (hv : valB y m d h mi s = true) (hy : ¬ y ≤ 2049) :
    valC y m d h mi s = 0 ∧ valL y m d h mi s = encL 0 false 24 (Clk.genL y m d h mi s) ∧ Clk.genCode y m d h mi s = 0 ∧ Clk.genBytes y m d h mi s = Clk.genL y m d h mi s ∧ Clk.validB y m d h mi s = true ∧ 1950 ≤ y := by
  have h2 := hv
  unfold valB at h2
  simp only [Bool.and_eq_true, decide_eq_true_eq] at h2
  have hc : Clk.genCode y m d h mi s = 0 := by unfold Clk.genCode; rw [if_pos h2.1]
  refine ⟨by unfold valC; rw [if_pos hv], by unfold valL; rw [if_pos hv, if_neg hy], hc, by unfold Clk.genBytes; rw [if_pos hc], h2.1, h2.2⟩
theorem enc23 : encCode 0 23 13 = 0 := by decide
theorem enc24 : encCode 0 24 15 = 0 := by decide
/-- the element that the whole is: its contents -/
theorem one_con {l : List UInt8} (h : (oneV l).2.1 = 0) : (l.drop (oneV l).1.body.toNat).take (l.length - (oneV l).1.body.toNat) = (nx l).con ∧ encL (oneV l).1.cls (oneV l).1.cons (oneV l).1.num (nx l).con = l ∧
    encCode (oneV l).1.cls (oneV l).1.num (nx l).con.length = 0 := by
  obtain ⟨h1, h2, h3, h4, h5, h6, h7⟩ := one_ok h
  rw [h5]
  simp only [Int.toNat_natCast]
  refine ⟨?_, h4, h3⟩
  rw [h6, List.take_of_length_le (by omega)]
theorem enc_inj {c n c' n' : Int} {b b' : Bool} {l m : List UInt8} (h : encCode c n l.length = 0) (h' : encCode c' n' m.length = 0) (e : encL c' b' n' m = encL c b n l) : c = c' ∧ n = n' ∧ b = b' ∧ l = m :=
  enc_prefix h h' (r := []) (by rw [List.append_nil]; exact e)
/-- a time's encoding, as an element -/
theorem val_enc {y m d h mi s : Int} (hv : valB y m d h mi s = true) :
    (y ≤ 2049 ∧ valL y m d h mi s = encL 0 false 23 (Clk.utcL y m d h mi s) ∧ encCode 0 23 (Clk.utcL y m d h mi s).length = 0 ∧ Clk.okU (Clk.utcL y m d h mi s)) ∨
    (2049 < y ∧ valL y m d h mi s = encL 0 false 24 (Clk.genL y m d h mi s) ∧ encCode 0 24 (Clk.genL y m d h mi s).length = 0 ∧ Clk.okG (Clk.genL y m d h mi s) ∧ Clk.yr4 (Clk.genL y m d h mi s) = y) := by
  by_cases hy : y ≤ 2049
  · obtain ⟨_, f2, f3, _, _, _⟩ := val_utc hv hy
    exact .inl ⟨hy, f2, by rw [utcL_len]; exact enc23, (Clk.utc_back f3).1⟩
  · obtain ⟨_, f2, f3, _, _, _⟩ := val_gen hv hy
    exact .inr ⟨by omega, f2, by rw [genL_len]; exact enc24, (Clk.gen_back f3).1, (Clk.gen_back f3).2.1⟩
theorem val_len {y m d h mi s : Int} : (valL y m d h mi s).length ≤ 17 := by
  cases hv : valB y m d h mi s with
  | false => rw [(val_no hv).2]; simp
  | true =>
    rcases val_enc hv with ⟨_, e, c, _⟩ | ⟨_, e, c, _⟩
    · rw [e, enc_len c, utcL_len, show lenL ((13 : Nat) : Int) = [13] from by decide +kernel]; simp
    · rw [e, enc_len c, genL_len, show lenL ((15 : Nat) : Int) = [15] from by decide +kernel]; simp
/-- contents octets of a UTCTime, as a time -/
theorem val_ofU {k : List UInt8} (h : Clk.okU k) : valB (Clk.yr2 k) (Clk.pr k 2) (Clk.pr k 4) (Clk.pr k 6) (Clk.pr k 8) (Clk.pr k 10) = true ∧ valL (Clk.yr2 k) (Clk.pr k 2) (Clk.pr k 4) (Clk.pr k 6) (Clk.pr k 8) (Clk.pr k 10) = encL 0 false 23 k := by
  obtain ⟨h1, h2⟩ := Clk.utc_of h
  have hv := h.2
  have hy : 1950 ≤ Clk.yr2 k ∧ Clk.yr2 k ≤ 2049 := by
    unfold Clk.utcCode at h1
    rw [if_pos hv] at h1
    by_cases hh : Clk.yr2 k < 1950 ∨ 2049 < Clk.yr2 k
    · rw [if_pos hh] at h1; omega
    · omega
  have hb : valB (Clk.yr2 k) (Clk.pr k 2) (Clk.pr k 4) (Clk.pr k 6) (Clk.pr k 8) (Clk.pr k 10) = true := by unfold valB; simp [hv, hy.1]
  refine ⟨hb, ?_⟩
  obtain ⟨_, f2, _, f4, _, _⟩ := val_utc hb hy.2
  rw [f2, ← f4, h2]
/-- contents octets of a GeneralizedTime, as a time -/
theorem val_ofG {k : List UInt8} (h : Clk.okG k) (hy : 2049 < Clk.yr4 k) : valB (Clk.yr4 k) (Clk.pr k 4) (Clk.pr k 6) (Clk.pr k 8) (Clk.pr k 10) (Clk.pr k 12) = true ∧ valL (Clk.yr4 k) (Clk.pr k 4) (Clk.pr k 6) (Clk.pr k 8) (Clk.pr k 10) (Clk.pr k 12) = encL 0 false 24 k := by
  obtain ⟨h1, h2⟩ := Clk.gen_of h
  have hb : valB (Clk.yr4 k) (Clk.pr k 4) (Clk.pr k 6) (Clk.pr k 8) (Clk.pr k 10) (Clk.pr k 12) = true := by unfold valB; simp [h.2]; omega
  refine ⟨hb, ?_⟩
  obtain ⟨_, f2, _, f4, _, _⟩ := val_gen hb (by omega)
  rw [f2, ← f4, h2]
/-- a time's encoding determines it -/
theorem val_inj {y m d h mi s y' m' d' h' mi' s' : Int} (hv : valB y m d h mi s = true) (hv' : valB y' m' d' h' mi' s' = true) (e : valL y m d h mi s = valL y' m' d' h' mi' s') : y = y' ∧ m = m' ∧ d = d' ∧ h = h' ∧ mi = mi' ∧ s = s' := by
  rcases val_enc hv with ⟨a1, a2, a3, a4⟩ | ⟨a1, a2, a3, a4, a5⟩ <;> rcases val_enc hv' with ⟨b1, b2, b3, b4⟩ | ⟨b1, b2, b3, b4, b5⟩
  · rw [a2, b2] at e
    have hk := (enc_inj b3 a3 e).2.2.2
    have p := Clk.utc_back (val_utc hv a1).2.2.1
    have q := Clk.utc_back (val_utc hv' b1).2.2.1
    rw [hk] at q
    exact ⟨p.2.1.symm.trans q.2.1, p.2.2.1.symm.trans q.2.2.1, p.2.2.2.1.symm.trans q.2.2.2.1, p.2.2.2.2.1.symm.trans q.2.2.2.2.1, p.2.2.2.2.2.1.symm.trans q.2.2.2.2.2.1, p.2.2.2.2.2.2.symm.trans q.2.2.2.2.2.2⟩
  · rw [a2, b2] at e; have := (enc_inj b3 a3 e).2.1; omega
  · rw [a2, b2] at e; have := (enc_inj b3 a3 e).2.1; omega
  · rw [a2, b2] at e
    have hk := (enc_inj b3 a3 e).2.2.2
    have p := Clk.gen_back (val_gen hv (by omega)).2.2.1
    have q := Clk.gen_back (val_gen hv' (by omega)).2.2.1
    rw [hk] at q
    exact ⟨p.2.1.symm.trans q.2.1, p.2.2.1.symm.trans q.2.2.1, p.2.2.2.1.symm.trans q.2.2.2.1, p.2.2.2.2.1.symm.trans q.2.2.2.2.1, p.2.2.2.2.2.1.symm.trans q.2.2.2.2.2.1, p.2.2.2.2.2.2.symm.trans q.2.2.2.2.2.2⟩
end Go.Proofs.Ytnpmgofkfdpbjaa.Val
/- Walks: Valid and Marshal of the package validity and of the reference. -/
namespace Go.Proofs.Ytnpmgofkfdpbjaa.Val
open Go.RowKit Kit Tlv

set_option maxHeartbeats 1000000 in
theorem validV_any (y m d h mi s : Int) (w : World) : Calls Try.prog 28 #[Clk.time y m d h mi s] w fun e w' => e = .returned (.bool (valB y m d h mi s)) ∧ Below w.heap.size w w' := by
  have V := Lib.hid (fun w => Clk.valid_any y m d h mi s w)
  have F := Lib.hid (show valB y m d h mi s = (Clk.validB y m d h mi s && decide (1950 ≤ y)) from rfl)
  cases hv : Clk.validB y m d h mi s with
  | false =>
    rw [hv] at V F
    clear hv
    go_enter Try.func28, Try.ntmps28
    go_wp2_with (go_at_call 86; go_must (go_fit (V.out _)); rintro e w1 ⟨rfl, hb1⟩)
    go_ret
    exact ⟨ret_bool (by rw [F.out]; rfl), bel1 hb1⟩
  | true =>
    rw [hv] at V F
    clear hv
    go_enter Try.func28, Try.ntmps28
    go_wp2_with (go_at_call 86; go_must (go_fit (V.out _)); rintro e w1 ⟨rfl, hb1⟩; obtain ⟨q0, q1, q2, q3, q4, q5⟩ := Clk.TimeB.cells (blk1 hb1))
    go_ret
    exact ⟨ret_bool (by rw [F.out]; simp), bel1 hb1⟩

set_option maxHeartbeats 1000000 in
theorem refvalidV_any (y m d h mi s : Int) (w : World) : Calls Try.prog 29 #[Clk.time y m d h mi s] w fun e w' => e = .returned (.bool (valB y m d h mi s)) ∧ Below w.heap.size w w' := by
  have V := Lib.hid (fun w => Clk.refvalid_any y m d h mi s w)
  have F := Lib.hid (show valB y m d h mi s = (Clk.validB y m d h mi s && decide (1950 ≤ y)) from rfl)
  cases hv : Clk.validB y m d h mi s with
  | false =>
    rw [hv] at V F
    clear hv
    go_enter Try.func29, Try.ntmps29
    go_wp2_with (go_at_call 87; go_must (go_fit (V.out _)); rintro e w1 ⟨rfl, hb1⟩)
    go_ret
    exact ⟨ret_bool (by rw [F.out]; rfl), bel1 hb1⟩
  | true =>
    rw [hv] at V F
    clear hv
    go_enter Try.func29, Try.ntmps29
    go_wp2_with (go_at_call 87; go_must (go_fit (V.out _)); rintro e w1 ⟨rfl, hb1⟩; obtain ⟨q0, q1, q2, q3, q4, q5⟩ := Clk.TimeB.cells (blk1 hb1))
    go_ret
    exact ⟨ret_bool (by rw [F.out]; simp), bel1 hb1⟩

set_option maxHeartbeats 2000000 in
theorem marshalV_any (y m d h mi s : Int) (w : World) : Calls Try.prog 25 #[Clk.time y m d h mi s] w (Ent.MarP w (valL y m d h mi s) (valC y m d h mi s)) := by
  have V := Lib.hid (fun w => validV_any y m d h mi s w)
  cases hv : valB y m d h mi s with
  | false =>
    obtain ⟨f1, f2⟩ := val_no hv
    rw [f1, f2]
    rw [hv] at V
    clear hv f1 f2
    go_enter Try.func25, Try.ntmps25
    go_wp2_with (go_at_call 28; go_must (go_fit (V.out _)); rintro e w1 ⟨rfl, hb1⟩)
    go_ret2
    exact ⟨none, 0, rfl, Own.none_ _ _, bel1 hb1⟩
  | true =>
    rw [hv] at V
    by_cases hy : y ≤ 2049
    · obtain ⟨f1, f2, f3, f4, f5, f6⟩ := val_utc hv hy
      rw [f1, f2]
      have G := Lib.hid (fun w => Clk.encUTC_any y m d h mi s w)
      rw [f3, f4] at G
      have F3 := Lib.hid (utcL_len y m d h mi s)
      have F2 := Lib.hid (show encCode 0 23 (Clk.utcL y m d h mi s).length = 0 from by rw [utcL_len]; exact enc23)
      generalize Clk.utcL y m d h mi s = u at *
      clear hv f1 f2 f3 f4 f5
      go_enter Try.func25, Try.ntmps25
      go_wp2_with (first | (go_at_call 28; go_must (go_fit (V.out _)); rintro e w1 ⟨rfl, hb1⟩; have tb := blk1 hb1; obtain ⟨q0, q1, q2, q3, q4, q5⟩ := Clk.TimeB.cells tb) | (go_at_call 80; go_must (go_fit (G.out _)); rintro e w2 ⟨A1, n1, c1, rfl, o1, hb2⟩; have W := Lib.hid (fun cc (hn : n1 = 13) => wrap_any 0 23 false _ (cat_one (cc := cc) (t := 29) w2 _ (c := c1) o1.rd (Nat.le_refl _) rfl (by omega)) (by omega)); have L := Lib.hid o1.len; have O1 := Lib.hid o1; clear o1) | (go_at_call 82; go_must (go_fit (W.out _ (L.out.symm.trans F3.out))); rintro e w3 ⟨A3, c3, rfl, o3, hb3⟩; have O3 := Lib.hid o3; clear o3))
      go_ret2
      have bel := (bel1 hb1).trans (hb2.mono (bel1 hb1).size)
      refine ⟨A3, c3, by rw [F2.out]; rfl, O3.out.mono (by have := bel.size; simp; omega), (bel.alloc bel.size _).trans (hb3.mono (by have := bel.size; simp; omega))⟩
    · obtain ⟨f1, f2, f3, f4, f5, f6⟩ := val_gen hv hy
      rw [f1, f2]
      have G := Lib.hid (fun w => Clk.encGen_any y m d h mi s w)
      rw [f3, f4] at G
      have F3 := Lib.hid (genL_len y m d h mi s)
      have F2 := Lib.hid (show encCode 0 24 (Clk.genL y m d h mi s).length = 0 from by rw [genL_len]; exact enc24)
      generalize Clk.genL y m d h mi s = u at *
      clear hv f1 f2 f3 f4 f5
      go_enter Try.func25, Try.ntmps25
      go_wp2_with (first | (go_at_call 28; go_must (go_fit (V.out _)); rintro e w1 ⟨rfl, hb1⟩; have tb := blk1 hb1; obtain ⟨q0, q1, q2, q3, q4, q5⟩ := Clk.TimeB.cells tb) | (go_at_call 81; go_must (go_fit (G.out _)); rintro e w2 ⟨A1, n1, c1, rfl, o1, hb2⟩; have W := Lib.hid (fun cc (hn : n1 = 15) => wrap_any 0 24 false _ (cat_one (cc := cc) (t := 29) w2 _ (c := c1) o1.rd (Nat.le_refl _) rfl (by omega)) (by omega)); have L := Lib.hid o1.len; have O1 := Lib.hid o1; clear o1) | (go_at_call 82; go_must (go_fit (W.out _ (L.out.symm.trans F3.out))); rintro e w3 ⟨A3, c3, rfl, o3, hb3⟩; have O3 := Lib.hid o3; clear o3))
      go_ret2
      have bel := (bel1 hb1).trans (hb2.mono (bel1 hb1).size)
      refine ⟨A3, c3, by rw [F2.out]; rfl, O3.out.mono (by have := bel.size; simp; omega), (bel.alloc bel.size _).trans (hb3.mono (by have := bel.size; simp; omega))⟩
end Go.Proofs.Ytnpmgofkfdpbjaa.Val
/- Walks: Marshal of the reference's validity. -/
namespace Go.Proofs.Ytnpmgofkfdpbjaa.Val
open Go.RowKit Kit Tlv

set_option maxHeartbeats 2000000 in
theorem refmarshalV_any (y m d h mi s : Int) (w : World) : Calls Try.prog 26 #[Clk.time y m d h mi s] w (Ent.MarP w (valL y m d h mi s) (valC y m d h mi s)) := by
  have V := Lib.hid (fun w => refvalidV_any y m d h mi s w)
  cases hv : valB y m d h mi s with
  | false =>
    obtain ⟨f1, f2⟩ := val_no hv
    rw [f1, f2]
    rw [hv] at V
    clear hv f1 f2
    go_enter Try.func26, Try.ntmps26
    go_wp2_with (go_at_call 29; go_must (go_fit (V.out _)); rintro e w1 ⟨rfl, hb1⟩)
    go_ret2
    exact ⟨none, 0, rfl, Own.none_ _ _, bel1 hb1⟩
  | true =>
    rw [hv] at V
    by_cases hy : y ≤ 2049
    · obtain ⟨f1, f2, f3, f4, f5, f6⟩ := val_utc hv hy
      rw [f1, f2]
      have G := Lib.hid (fun w => Clk.refencUTC_any y m d h mi s w)
      rw [f3, f4] at G
      have hy' : y < 2050 := by omega
      have F3 := Lib.hid (utcL_len y m d h mi s)
      have F2 := Lib.hid ((put_enc (c := 0) (n := 23) (b := false) (l := Clk.utcL y m d h mi s) (by rw [utcL_len]; exact enc23)).symm.trans (by rw [show idByte 0 false 23 = 23 from by decide]))
      generalize Clk.utcL y m d h mi s = u at *
      rw [F2.out]
      clear hv f1 f2 f3 f4 f5 hy
      go_enter Try.func26, Try.ntmps26
      go_wp2_with (first | (go_at_call 29; go_must (go_fit (V.out _)); rintro e w1 ⟨rfl, hb1⟩; have tb := blk1 hb1; obtain ⟨q0, q1, q2, q3, q4, q5⟩ := Clk.TimeB.cells tb) | (go_at_call 83; go_must (go_fit (G.out _)); rintro e w2 ⟨A1, n1, c1, rfl, o1, hb2⟩; have W := Lib.hid (fun (hn : n1 = 13) => put_any (c := c1) 23 _ o1 (Nat.le_refl _) (by decide) (by decide) (by omega)); have L := Lib.hid o1.len; clear o1) | (go_at_call 84; go_must (go_fit (W.out (L.out.symm.trans F3.out))); rintro e w3 ⟨A3, c3, rfl, o3, hb3⟩; have O3 := Lib.hid o3; clear o3))
      go_ret2
      have bel := (bel1 hb1).trans (hb2.mono (bel1 hb1).size)
      exact ⟨A3, c3, rfl, O3.out.mono bel.size, bel.trans (hb3.mono bel.size)⟩
    · obtain ⟨f1, f2, f3, f4, f5, f6⟩ := val_gen hv hy
      rw [f1, f2]
      have G := Lib.hid (fun w => Clk.refencGen_any y m d h mi s w)
      rw [f3, f4] at G
      have hy' : ¬ y < 2050 := by omega
      have F3 := Lib.hid (genL_len y m d h mi s)
      have F2 := Lib.hid ((put_enc (c := 0) (n := 24) (b := false) (l := Clk.genL y m d h mi s) (by rw [genL_len]; exact enc24)).symm.trans (by rw [show idByte 0 false 24 = 24 from by decide]))
      generalize Clk.genL y m d h mi s = u at *
      rw [F2.out]
      clear hv f1 f2 f3 f4 f5 hy
      go_enter Try.func26, Try.ntmps26
      go_wp2_with (first | (go_at_call 29; go_must (go_fit (V.out _)); rintro e w1 ⟨rfl, hb1⟩; have tb := blk1 hb1; obtain ⟨q0, q1, q2, q3, q4, q5⟩ := Clk.TimeB.cells tb) | (go_at_call 85; go_must (go_fit (G.out _)); rintro e w2 ⟨A1, n1, c1, rfl, o1, hb2⟩; have W := Lib.hid (fun (hn : n1 = 15) => put_any (c := c1) 24 _ o1 (Nat.le_refl _) (by decide) (by decide) (by omega)); have L := Lib.hid o1.len; clear o1) | (go_at_call 84; go_must (go_fit (W.out (L.out.symm.trans F3.out))); rintro e w3 ⟨A3, c3, rfl, o3, hb3⟩; have O3 := Lib.hid o3; clear o3))
      go_ret2
      have bel := (bel1 hb1).trans (hb2.mono (bel1 hb1).size)
      exact ⟨A3, c3, rfl, O3.out.mono bel.size, bel.trans (hb3.mono bel.size)⟩
end Go.Proofs.Ytnpmgofkfdpbjaa.Val
/- Walks: Parse of the package validity, case by case. -/
namespace Go.Proofs.Ytnpmgofkfdpbjaa.Kit
open Go.RowKit
theorem free2 {w : World} {b : Nat} {cs : Array Value} {t : TypeId} (h : w.heap[b]? = some (.cells cs t (0, 0))) : w.frozen? ⟨b, 0, none⟩ = false ∧ w.frozen? ⟨b, 1, none⟩ = false :=
  ⟨frozen_of_row w b 0 _ _ h, frozen_of_row w b 1 _ _ h⟩
/-- a world of which nothing but this is kept -/
theorem wp_abst {P : Program} {cd : Code} {Q : Exit → Act → World → Prop} {a : Act} {W : World} (R : World → Prop) (h : R W) (k : ∀ w2, R w2 → cd.wp P Q a w2) : cd.wp P Q a W := k W h
end Go.Proofs.Ytnpmgofkfdpbjaa.Kit
namespace Go.Proofs.Ytnpmgofkfdpbjaa.Val
open Go.RowKit Kit Tlv

/-- the blocks of a running Parse: the two results, the element -/
def PB (w : World) (b4 : Nat) (ts es xs : Array Value) (X : World) : Prop :=
  X.heap[w.heap.size]? = some (.cells ts 28 (0, 0)) ∧ X.heap[w.heap.size + 1]? = some (.cells es 36 (0, 0)) ∧ X.heap[b4]? = some (.cells xs 93 (0, 0)) ∧ Below w.heap.size w X ∧ w.heap.size + 2 ≤ b4
theorem PB.past {w X Y : World} {b4 : Nat} {ts es xs : Array Value} (h : PB w b4 ts es xs X) (hb : Below X.heap.size X Y) : PB w b4 ts es xs Y :=
  ⟨stayK h.1 hb, stayK h.2.1 hb, stayK h.2.2.1 hb, h.2.2.2.1.trans (hb.mono h.2.2.2.1.size), h.2.2.2.2⟩
theorem PB.rd {w X : World} {b4 : Nat} {ts es xs : Array Value} {A : Option Addr} {n B : Nat} {l : List UInt8} (h : PB w b4 ts es xs X) (hr : Rd w B A n l) (hB : B ≤ w.heap.size) : Rd X X.heap.size A n l :=
  (hr.below (h.2.2.2.1.mono hB)).more (Nat.le_trans hB h.2.2.2.1.size)
/-- the first result, stored -/
theorem PB.time {w X : World} {b4 : Nat} {x0 x1 x2 x3 x4 x5 : Value} {es xs : Array Value} (y0 y1 y2 y3 y4 y5 : Value) (h : PB w b4 #[x0, x1, x2, x3, x4, x5] es xs X) :
    PB w b4 #[y0, y1, y2, y3, y4, y5] es xs ((((((X.setCell ⟨w.heap.size, 0, none⟩ y0).setCell ⟨w.heap.size, 1, none⟩ y1).setCell ⟨w.heap.size, 2, none⟩ y2).setCell ⟨w.heap.size, 3, none⟩ y3).setCell ⟨w.heap.size, 4, none⟩ y4).setCell ⟨w.heap.size, 5, none⟩ y5) := by
  obtain ⟨h1, h2, h3, h4, h5⟩ := h
  exact ⟨set6 _ _ _ _ _ _ h1, far6 h2 (by omega) _ _ _ _ _ _, far6 h3 (by omega) _ _ _ _ _ _, (by repeat' (first | (with_reducible exact Below.refl _ _) | (with_reducible assumption) | (with_reducible refine below_drewN ?_ _) | (with_reducible refine Below.drew ?_) | (with_reducible refine Below.alloc ?_ ?_ _) | (with_reducible refine Below.setCell ?_ ?_ _) | go_size)), h5⟩
/-- the second one -/
theorem PB.err {w X : World} {b4 : Nat} {x0 x1 : Value} {ts xs : Array Value} (y0 y1 : Value) (h : PB w b4 ts #[x0, x1] xs X) :
    PB w b4 ts #[y0, y1] xs ((X.setCell ⟨w.heap.size + 1, 0, none⟩ y0).setCell ⟨w.heap.size + 1, 1, none⟩ y1) := by
  obtain ⟨h1, h2, h3, h4, h5⟩ := h
  exact ⟨far2 h1 (by omega) _ _, set2 _ _ h2, far2 h3 (by omega) _ _, (by repeat' (first | (with_reducible exact Below.refl _ _) | (with_reducible assumption) | (with_reducible refine below_drewN ?_ _) | (with_reducible refine Below.drew ?_) | (with_reducible refine Below.alloc ?_ ?_ _) | (with_reducible refine Below.setCell ?_ ?_ _) | go_size)), h5⟩
theorem PB.drew {w X : World} {b4 : Nat} {ts es xs : Array Value} (h : PB w b4 ts es xs X) : PB w b4 ts es xs X.drew := ⟨h.1, h.2.1, h.2.2.1, Below.drew h.2.2.2.1, h.2.2.2.2⟩
/-- what a region of self-stores may read -/
theorem PB.full {w X : World} {b4 : Nat} {x0 x1 x2 x3 x4 x5 y0 y1 : Value} {xs : Array Value} (h : PB w b4 #[x0, x1, x2, x3, x4, x5] #[y0, y1] xs X) :
    PB w b4 #[x0, x1, x2, x3, x4, x5] #[y0, y1] xs X ∧ X.cell? ⟨w.heap.size, 0, none⟩ = some x0 ∧ X.cell? ⟨w.heap.size, 1, none⟩ = some x1 ∧ X.cell? ⟨w.heap.size, 2, none⟩ = some x2 ∧ X.cell? ⟨w.heap.size, 3, none⟩ = some x3 ∧ X.cell? ⟨w.heap.size, 4, none⟩ = some x4 ∧ X.cell? ⟨w.heap.size, 5, none⟩ = some x5 ∧
      X.cell? ⟨w.heap.size + 1, 0, none⟩ = some y0 ∧ X.cell? ⟨w.heap.size + 1, 1, none⟩ = some y1 := by
  obtain ⟨q0, q1, q2, q3, q4, q5⟩ := cells6 h.1
  obtain ⟨s0, s1⟩ := cells2 h.2.1
  exact ⟨h, q0, q1, q2, q3, q4, q5, s0, s1⟩
/-- what Parse returns -/
abbrev parR (t0 t1 t2 t3 t4 t5 code off : Int) : Value := .tuple #[Clk.time t0 t1 t2 t3 t4 t5, err code off]

set_option maxRecDepth 100000 in
set_option maxHeartbeats 3000000 in
theorem parse_err {A : Option Addr} {n c B : Nat} {l : List UInt8} {x0 x1 x3 x4 x5 r1 r2 : Int} {x2 : Bool} (w : World) (hr : Rd w B A n l) (hB : B ≤ w.heap.size) (hc : n ≤ c) (hm : c ≤ maxLen) (hn : n ≤ 1000000)
    (hone : oneV l = (⟨x0, x1, x2, x3, x4, x5⟩, r1, r2)) (hz : ¬ r1 = 0) :
    Calls Try.prog 30 #[.slice A n c] w fun e w' => e = .returned (parR 0 0 0 0 0 0 r1 r2) ∧ Below w.heap.size w w' := by
  have ON := Lib.hid (fun (X : World) (h : Below w.heap.size w X) => one_any (c := c) X (hr.below (h.mono hB)) (by have := h.size; omega) hc hm (by omega))
  have hl := hr.len
  have HR := Lib.hid hr
  rw [hone] at ON
  simp only [elR, elT] at ON
  clear hr hone
  go_enter Try.func30, Try.ntmps30
  go_upto_region 2 with (first | (go_at_call 88; go_must (go_fit (ON.out _ (((Below.refl _ _).alloc (Nat.le_refl _) _).alloc (by simp) _))); rintro e w1 ⟨rfl, hb1⟩; obtain ⟨t2, t3, bel⟩ := box2 hb1; have zs := hb1.size; simp only [World.size_alloc] at zs; have zs2 : w.heap.size + 1 < w1.heap.size := (by omega); obtain ⟨s0, s1⟩ := cells2 t3; obtain ⟨g0, g1⟩ := free2 t3))
  refine wp_abst (PB w w1.heap.size #[.int .i64 0, .int .i64 0, .int .i64 0, .int .i64 0, .int .i64 0, .int .i64 0] #[.int .i64 r1, .int .i64 r2] #[.int .i64 x0, .int .i64 x1, .bool x2, .int .i64 x3, .int .i64 x4, .int .i64 x5]) ?_ ?_
  · exact ⟨bk_old (far2 t2 (by omega) _ _), bk_old (set2 _ _ t3), bk_new (by simp), (by repeat' (first | (with_reducible exact Below.refl _ _) | (with_reducible assumption) | (with_reducible refine below_drewN ?_ _) | (with_reducible refine Below.drew ?_) | (with_reducible refine Below.alloc ?_ ?_ _) | (with_reducible refine Below.setCell ?_ ?_ _) | go_size)), by omega⟩
  intro w2 hp
  clear t2 t3 bel zs zs2 s0 s1 g0 g1 hb1 ON
  generalize w1.heap.size = b4 at *
  clear w1
  have n1 : ¬ b4 = w.heap.size := by have := hp.2.2.2.2; omega
  have n2 : ¬ w.heap.size = b4 := by have := hp.2.2.2.2; omega
  have n3 : ¬ b4 = w.heap.size + 1 := by have := hp.2.2.2.2; omega
  have n4 : ¬ w.heap.size + 1 = b4 := by have := hp.2.2.2.2; omega
  have HP2 := Lib.hid hp
  obtain ⟨tb, te, tx, -, -⟩ := hp
  obtain ⟨q0, q1, q2, q3, q4, q5⟩ := cells6 tb
  obtain ⟨f0, f1, f2, f3, f4, f5⟩ := free6 tb
  obtain ⟨s0, s1⟩ := cells2 te
  obtain ⟨g0, g1⟩ := free2 te
  obtain ⟨u0, u1, u2, u3, u4, u5⟩ := cells6 tx
  clear tb te tx
  have hpb := HP2.out
  go_upto_region 3 with fail
  go_region_held3 (fun w' => PB w b4 #[.int .i64 (0), .int .i64 (0), .int .i64 (0), .int .i64 (0), .int .i64 (0), .int .i64 (0)] #[.int .i64 (r1), .int .i64 (r2)] #[.int .i64 x0, .int .i64 x1, .bool x2, .int .i64 x3, .int .i64 x4, .int .i64 x5] w' ∧ w'.cell? ⟨w.heap.size, 0, none⟩ = some (.int .i64 (0)) ∧ w'.cell? ⟨w.heap.size, 1, none⟩ = some (.int .i64 (0)) ∧ w'.cell? ⟨w.heap.size, 2, none⟩ = some (.int .i64 (0)) ∧ w'.cell? ⟨w.heap.size, 3, none⟩ = some (.int .i64 (0)) ∧ w'.cell? ⟨w.heap.size, 4, none⟩ = some (.int .i64 (0)) ∧ w'.cell? ⟨w.heap.size, 5, none⟩ = some (.int .i64 (0)) ∧ w'.cell? ⟨w.heap.size + 1, 0, none⟩ = some (.int .i64 (r1)) ∧ w'.cell? ⟨w.heap.size + 1, 1, none⟩ = some (.int .i64 (r2))) ((with_reducible refine PB.full ?_; repeat' (first | (with_reducible assumption) | (with_reducible refine PB.drew ?_) | (with_reducible apply PB.time) | (with_reducible apply PB.err)))) (fail)
  rename_i hheld
  clear hheld
  go_wp2
  clear q0 q1 q2 q3 q4 q5 f0 f1 f2 f3 f4 f5 s0 s1 g0 g1 u0 u1 u2 u3 u4 u5
  have hq := PB.err (.int .i64 (r1)) (.int .i64 (r2)) (PB.time (.int .i64 (0)) (.int .i64 (0)) (.int .i64 (0)) (.int .i64 (0)) (.int .i64 (0)) (.int .i64 (0)) HP2.out)
  have tc := cells6 hq.1
  have td := cells2 hq.2.1
  refine bodyPost_ret (v := parR (0) (0) (0) (0) (0) (0) (r1) (r2)) (by simp [results, Try.results30, go_sem, *]) rfl ?_
  exact ⟨rfl, Below.drew hq.2.2.2.1⟩

set_option maxRecDepth 100000 in
set_option maxHeartbeats 3000000 in
theorem parse_utc {A : Option Addr} {n c B : Nat} {l : List UInt8} {x0 x1 x3 x4 x5 r1 r2 : Int} {x2 : Bool} (w : World) (hr : Rd w B A n l) (hB : B ≤ w.heap.size) (hc : n ≤ c) (hm : c ≤ maxLen) (hn : n ≤ 1000000)
    (hone : oneV l = (⟨x0, x1, x2, x3, x4, x5⟩, r1, r2)) (hz : r1 = 0) (hT : (x0 = 0 ∧ x2 = false) ∧ x1 = 23) {t0 t1 t2 t3 t4 t5 : Int} (hdec : ∀ (X : World) (A1 : Option Addr), Rd X X.heap.size A1 (n - x4.toNat) ((l.drop x4.toNat).take (n - x4.toNat)) → Calls Try.prog 90 #[.slice A1 (n - x4.toNat) (c - x4.toNat)] X fun e w' => e = .returned (.tuple #[Clk.time t0 t1 t2 t3 t4 t5, .int .i64 0]) ∧ Below X.heap.size X w') :
    Calls Try.prog 30 #[.slice A n c] w fun e w' => e = .returned (parR t0 t1 t2 t3 t4 t5 0 0) ∧ Below w.heap.size w w' := by
  have ON := Lib.hid (fun (X : World) (h : Below w.heap.size w X) => one_any (c := c) X (hr.below (h.mono hB)) (by have := h.size; omega) hc hm (by omega))
  have hl := hr.len
  have HR := Lib.hid hr
  rw [hone] at ON
  simp only [elR, elT] at ON
  obtain ⟨k1, k2, k3, k4, k5⟩ := one_bd (l := l) (by rw [hone]; exact hz)
  rw [hone] at k1 k2 k3 k4 k5
  simp only [] at k1 k2 k3 k4 k5
  rw [hl] at k5
  subst hz
  subst k1 k2 k5
  obtain ⟨m4, rfl⟩ := Int.eq_ofNat_of_zero_le (show 0 ≤ x4 from by omega)
  have hm4 : m4 ≤ n := by omega
  have hmc : (n : Int) ≤ (c : Int) := by omega
  simp only [Int.toNat_natCast] at hdec
  have DEC := Lib.hid hdec
  clear hdec
  have I3 := Lib.hid (fun (X : World) => is_any x0 x1 0 (m4 : Int) (n : Int) x2 0 false 23 X)
  have I4 := Lib.hid (fun (X : World) => is_any x0 x1 0 (m4 : Int) (n : Int) x2 0 false 24 X)
  have IB := Lib.hid (isB_iff (x3 := 0) (x4 := (m4 : Int)) (x5 := (n : Int)) hT)
  rw [IB.out] at I3
  clear hT
  clear hr hone
  go_enter Try.func30, Try.ntmps30
  go_upto_region 2 with (first | (go_at_call 88; go_must (go_fit (ON.out _ (((Below.refl _ _).alloc (Nat.le_refl _) _).alloc (by simp) _))); rintro e w1 ⟨rfl, hb1⟩; obtain ⟨t2, t3, bel⟩ := box2 hb1; have zs := hb1.size; simp only [World.size_alloc] at zs; have zs2 : w.heap.size + 1 < w1.heap.size := (by omega); obtain ⟨s0, s1⟩ := cells2 t3; obtain ⟨g0, g1⟩ := free2 t3))
  refine wp_abst (PB w w1.heap.size #[.int .i64 0, .int .i64 0, .int .i64 0, .int .i64 0, .int .i64 0, .int .i64 0] #[.int .i64 0, .int .i64 0] #[.int .i64 x0, .int .i64 x1, .bool x2, .int .i64 0, .int .i64 (m4 : Int), .int .i64 (n : Int)]) ?_ ?_
  · exact ⟨bk_old (far2 t2 (by omega) _ _), bk_old (set2 _ _ t3), bk_new (by simp), (by repeat' (first | (with_reducible exact Below.refl _ _) | (with_reducible assumption) | (with_reducible refine below_drewN ?_ _) | (with_reducible refine Below.drew ?_) | (with_reducible refine Below.alloc ?_ ?_ _) | (with_reducible refine Below.setCell ?_ ?_ _) | go_size)), by omega⟩
  intro w2 hp
  clear t2 t3 bel zs zs2 s0 s1 g0 g1 hb1 ON
  generalize w1.heap.size = b4 at *
  clear w1
  have n1 : ¬ b4 = w.heap.size := by have := hp.2.2.2.2; omega
  have n2 : ¬ w.heap.size = b4 := by have := hp.2.2.2.2; omega
  have n3 : ¬ b4 = w.heap.size + 1 := by have := hp.2.2.2.2; omega
  have n4 : ¬ w.heap.size + 1 = b4 := by have := hp.2.2.2.2; omega
  have HP2 := Lib.hid hp
  obtain ⟨tb, te, tx, -, -⟩ := hp
  obtain ⟨q0, q1, q2, q3, q4, q5⟩ := cells6 tb
  obtain ⟨f0, f1, f2, f3, f4, f5⟩ := free6 tb
  obtain ⟨s0, s1⟩ := cells2 te
  obtain ⟨g0, g1⟩ := free2 te
  obtain ⟨u0, u1, u2, u3, u4, u5⟩ := cells6 tx
  clear tb te tx
  go_upto_region 7 with (first | (go_at_call 89; go_must (go_fit (I3.out _)); rintro e w3 ⟨rfl, hb3⟩))
  refine wp_abst _ (PB.past HP2.out hb3) ?_
  intro w3 hp
  clear hb3 q0 q1 q2 q3 q4 q5 f0 f1 f2 f3 f4 f5 s0 s1 g0 g1 u0 u1 u2 u3 u4 u5
  have HP3 := Lib.hid hp
  obtain ⟨tb, te, tx, -, -⟩ := hp
  obtain ⟨q0, q1, q2, q3, q4, q5⟩ := cells6 tb
  obtain ⟨f0, f1, f2, f3, f4, f5⟩ := free6 tb
  obtain ⟨s0, s1⟩ := cells2 te
  obtain ⟨g0, g1⟩ := free2 te
  obtain ⟨u0, u1, u2, u3, u4, u5⟩ := cells6 tx
  clear tb te tx
  have hrd := Lib.hid ((PB.rd HP3.out HR.out hB).cut (k := m4) (m := n) (cap := c) hm4 (Nat.le_refl _) hc)
  simp only [Nat.mul_one] at hrd
  generalize (if c = m4 then A else Option.map (fun x => x.add m4) A) = A1 at *
  go_upto_region 12 with (first | (go_at_call 90; go_must (go_fit (DEC.out _ _ hrd.out)); rintro e w5 ⟨rfl, hb5⟩; have hp5 := PB.past HP3.out hb5; obtain ⟨tb, te, tx, -, -⟩ := hp5; obtain ⟨qq0, qq1, qq2, qq3, qq4, qq5⟩ := cells6 tb; obtain ⟨ff0, ff1, ff2, ff3, ff4, ff5⟩ := free6 tb; clear tb te tx))
  refine wp_abst _ (PB.time (.int .i64 t0) (.int .i64 t1) (.int .i64 t2) (.int .i64 t3) (.int .i64 t4) (.int .i64 t5) (PB.past HP3.out hb5)) ?_
  intro w4 hp
  clear hb5 hrd qq0 qq1 qq2 qq3 qq4 qq5 ff0 ff1 ff2 ff3 ff4 ff5 q0 q1 q2 q3 q4 q5 f0 f1 f2 f3 f4 f5 s0 s1 g0 g1 u0 u1 u2 u3 u4 u5
  have HP4 := Lib.hid hp
  obtain ⟨tb, te, tx, -, -⟩ := hp
  obtain ⟨q0, q1, q2, q3, q4, q5⟩ := cells6 tb
  obtain ⟨f0, f1, f2, f3, f4, f5⟩ := free6 tb
  obtain ⟨s0, s1⟩ := cells2 te
  obtain ⟨g0, g1⟩ := free2 te
  obtain ⟨u0, u1, u2, u3, u4, u5⟩ := cells6 tx
  clear tb te tx
  have hpb := HP4.out
  go_upto_region 14 with fail
  go_region_held3 (fun w' => PB w b4 #[.int .i64 (t0), .int .i64 (t1), .int .i64 (t2), .int .i64 (t3), .int .i64 (t4), .int .i64 (t5)] #[.int .i64 (0), .int .i64 (0)] #[.int .i64 x0, .int .i64 x1, .bool x2, .int .i64 0, .int .i64 (m4 : Int), .int .i64 (n : Int)] w' ∧ w'.cell? ⟨w.heap.size, 0, none⟩ = some (.int .i64 (t0)) ∧ w'.cell? ⟨w.heap.size, 1, none⟩ = some (.int .i64 (t1)) ∧ w'.cell? ⟨w.heap.size, 2, none⟩ = some (.int .i64 (t2)) ∧ w'.cell? ⟨w.heap.size, 3, none⟩ = some (.int .i64 (t3)) ∧ w'.cell? ⟨w.heap.size, 4, none⟩ = some (.int .i64 (t4)) ∧ w'.cell? ⟨w.heap.size, 5, none⟩ = some (.int .i64 (t5)) ∧ w'.cell? ⟨w.heap.size + 1, 0, none⟩ = some (.int .i64 (0)) ∧ w'.cell? ⟨w.heap.size + 1, 1, none⟩ = some (.int .i64 (0))) ((with_reducible refine PB.full ?_; repeat' (first | (with_reducible assumption) | (with_reducible refine PB.drew ?_) | (with_reducible apply PB.time) | (with_reducible apply PB.err)))) (fail)
  rename_i hheld
  clear hheld
  go_wp2
  clear q0 q1 q2 q3 q4 q5 f0 f1 f2 f3 f4 f5 s0 s1 g0 g1 u0 u1 u2 u3 u4 u5
  have hq := PB.err (.int .i64 (0)) (.int .i64 (0)) (PB.time (.int .i64 (t0)) (.int .i64 (t1)) (.int .i64 (t2)) (.int .i64 (t3)) (.int .i64 (t4)) (.int .i64 (t5)) HP4.out)
  have tc := cells6 hq.1
  have td := cells2 hq.2.1
  refine bodyPost_ret (v := parR (t0) (t1) (t2) (t3) (t4) (t5) (0) (0)) (by simp [results, Try.results30, go_sem, *]) rfl ?_
  exact ⟨rfl, Below.drew hq.2.2.2.1⟩

set_option maxRecDepth 100000 in
set_option maxHeartbeats 3000000 in
theorem parse_utc_no {A : Option Addr} {n c B : Nat} {l : List UInt8} {x0 x1 x3 x4 x5 r1 r2 : Int} {x2 : Bool} (w : World) (hr : Rd w B A n l) (hB : B ≤ w.heap.size) (hc : n ≤ c) (hm : c ≤ maxLen) (hn : n ≤ 1000000)
    (hone : oneV l = (⟨x0, x1, x2, x3, x4, x5⟩, r1, r2)) (hz : r1 = 0) (hT : (x0 = 0 ∧ x2 = false) ∧ x1 = 23) {t0 t1 t2 t3 t4 t5 : Int} (hdec : ∀ (X : World) (A1 : Option Addr), Rd X X.heap.size A1 (n - x4.toNat) ((l.drop x4.toNat).take (n - x4.toNat)) → Calls Try.prog 90 #[.slice A1 (n - x4.toNat) (c - x4.toNat)] X fun e w' => e = .returned (.tuple #[Clk.time t0 t1 t2 t3 t4 t5, .int .i64 6]) ∧ Below X.heap.size X w') :
    Calls Try.prog 30 #[.slice A n c] w fun e w' => e = .returned (parR t0 t1 t2 t3 t4 t5 6 x4) ∧ Below w.heap.size w w' := by
  have ON := Lib.hid (fun (X : World) (h : Below w.heap.size w X) => one_any (c := c) X (hr.below (h.mono hB)) (by have := h.size; omega) hc hm (by omega))
  have hl := hr.len
  have HR := Lib.hid hr
  rw [hone] at ON
  simp only [elR, elT] at ON
  obtain ⟨k1, k2, k3, k4, k5⟩ := one_bd (l := l) (by rw [hone]; exact hz)
  rw [hone] at k1 k2 k3 k4 k5
  simp only [] at k1 k2 k3 k4 k5
  rw [hl] at k5
  subst hz
  subst k1 k2 k5
  obtain ⟨m4, rfl⟩ := Int.eq_ofNat_of_zero_le (show 0 ≤ x4 from by omega)
  have hm4 : m4 ≤ n := by omega
  have hmc : (n : Int) ≤ (c : Int) := by omega
  simp only [Int.toNat_natCast] at hdec
  have DEC := Lib.hid hdec
  clear hdec
  have I3 := Lib.hid (fun (X : World) => is_any x0 x1 0 (m4 : Int) (n : Int) x2 0 false 23 X)
  have I4 := Lib.hid (fun (X : World) => is_any x0 x1 0 (m4 : Int) (n : Int) x2 0 false 24 X)
  have IB := Lib.hid (isB_iff (x3 := 0) (x4 := (m4 : Int)) (x5 := (n : Int)) hT)
  rw [IB.out] at I3
  clear hT
  clear hr hone
  go_enter Try.func30, Try.ntmps30
  go_upto_region 2 with (first | (go_at_call 88; go_must (go_fit (ON.out _ (((Below.refl _ _).alloc (Nat.le_refl _) _).alloc (by simp) _))); rintro e w1 ⟨rfl, hb1⟩; obtain ⟨t2, t3, bel⟩ := box2 hb1; have zs := hb1.size; simp only [World.size_alloc] at zs; have zs2 : w.heap.size + 1 < w1.heap.size := (by omega); obtain ⟨s0, s1⟩ := cells2 t3; obtain ⟨g0, g1⟩ := free2 t3))
  refine wp_abst (PB w w1.heap.size #[.int .i64 0, .int .i64 0, .int .i64 0, .int .i64 0, .int .i64 0, .int .i64 0] #[.int .i64 0, .int .i64 0] #[.int .i64 x0, .int .i64 x1, .bool x2, .int .i64 0, .int .i64 (m4 : Int), .int .i64 (n : Int)]) ?_ ?_
  · exact ⟨bk_old (far2 t2 (by omega) _ _), bk_old (set2 _ _ t3), bk_new (by simp), (by repeat' (first | (with_reducible exact Below.refl _ _) | (with_reducible assumption) | (with_reducible refine below_drewN ?_ _) | (with_reducible refine Below.drew ?_) | (with_reducible refine Below.alloc ?_ ?_ _) | (with_reducible refine Below.setCell ?_ ?_ _) | go_size)), by omega⟩
  intro w2 hp
  clear t2 t3 bel zs zs2 s0 s1 g0 g1 hb1 ON
  generalize w1.heap.size = b4 at *
  clear w1
  have n1 : ¬ b4 = w.heap.size := by have := hp.2.2.2.2; omega
  have n2 : ¬ w.heap.size = b4 := by have := hp.2.2.2.2; omega
  have n3 : ¬ b4 = w.heap.size + 1 := by have := hp.2.2.2.2; omega
  have n4 : ¬ w.heap.size + 1 = b4 := by have := hp.2.2.2.2; omega
  have HP2 := Lib.hid hp
  obtain ⟨tb, te, tx, -, -⟩ := hp
  obtain ⟨q0, q1, q2, q3, q4, q5⟩ := cells6 tb
  obtain ⟨f0, f1, f2, f3, f4, f5⟩ := free6 tb
  obtain ⟨s0, s1⟩ := cells2 te
  obtain ⟨g0, g1⟩ := free2 te
  obtain ⟨u0, u1, u2, u3, u4, u5⟩ := cells6 tx
  clear tb te tx
  go_upto_region 7 with (first | (go_at_call 89; go_must (go_fit (I3.out _)); rintro e w3 ⟨rfl, hb3⟩))
  refine wp_abst _ (PB.past HP2.out hb3) ?_
  intro w3 hp
  clear hb3 q0 q1 q2 q3 q4 q5 f0 f1 f2 f3 f4 f5 s0 s1 g0 g1 u0 u1 u2 u3 u4 u5
  have HP3 := Lib.hid hp
  obtain ⟨tb, te, tx, -, -⟩ := hp
  obtain ⟨q0, q1, q2, q3, q4, q5⟩ := cells6 tb
  obtain ⟨f0, f1, f2, f3, f4, f5⟩ := free6 tb
  obtain ⟨s0, s1⟩ := cells2 te
  obtain ⟨g0, g1⟩ := free2 te
  obtain ⟨u0, u1, u2, u3, u4, u5⟩ := cells6 tx
  clear tb te tx
  have hrd := Lib.hid ((PB.rd HP3.out HR.out hB).cut (k := m4) (m := n) (cap := c) hm4 (Nat.le_refl _) hc)
  simp only [Nat.mul_one] at hrd
  generalize (if c = m4 then A else Option.map (fun x => x.add m4) A) = A1 at *
  go_upto_region 12 with (first | (go_at_call 90; go_must (go_fit (DEC.out _ _ hrd.out)); rintro e w5 ⟨rfl, hb5⟩; have hp5 := PB.past HP3.out hb5; obtain ⟨tb, te, tx, -, -⟩ := hp5; obtain ⟨qq0, qq1, qq2, qq3, qq4, qq5⟩ := cells6 tb; obtain ⟨ff0, ff1, ff2, ff3, ff4, ff5⟩ := free6 tb; clear tb te tx))
  refine wp_abst _ (PB.time (.int .i64 t0) (.int .i64 t1) (.int .i64 t2) (.int .i64 t3) (.int .i64 t4) (.int .i64 t5) (PB.past HP3.out hb5)) ?_
  intro w4 hp
  clear hb5 hrd qq0 qq1 qq2 qq3 qq4 qq5 ff0 ff1 ff2 ff3 ff4 ff5 q0 q1 q2 q3 q4 q5 f0 f1 f2 f3 f4 f5 s0 s1 g0 g1 u0 u1 u2 u3 u4 u5
  have HP4 := Lib.hid hp
  obtain ⟨tb, te, tx, -, -⟩ := hp
  obtain ⟨q0, q1, q2, q3, q4, q5⟩ := cells6 tb
  obtain ⟨f0, f1, f2, f3, f4, f5⟩ := free6 tb
  obtain ⟨s0, s1⟩ := cells2 te
  obtain ⟨g0, g1⟩ := free2 te
  obtain ⟨u0, u1, u2, u3, u4, u5⟩ := cells6 tx
  clear tb te tx
  go_upto_region 14 with fail
  refine wp_abst _ (PB.err (.int .i64 6) (.int .i64 (m4 : Int)) HP4.out) ?_
  intro w5 hp
  clear q0 q1 q2 q3 q4 q5 f0 f1 f2 f3 f4 f5 s0 s1 g0 g1 u0 u1 u2 u3 u4 u5
  have HP5 := Lib.hid hp
  obtain ⟨tb, te, tx, -, -⟩ := hp
  obtain ⟨q0, q1, q2, q3, q4, q5⟩ := cells6 tb
  obtain ⟨f0, f1, f2, f3, f4, f5⟩ := free6 tb
  obtain ⟨s0, s1⟩ := cells2 te
  obtain ⟨g0, g1⟩ := free2 te
  obtain ⟨u0, u1, u2, u3, u4, u5⟩ := cells6 tx
  clear tb te tx
  have hpb := HP5.out
  go_upto_region 14 with fail
  go_region_held3 (fun w' => PB w b4 #[.int .i64 (t0), .int .i64 (t1), .int .i64 (t2), .int .i64 (t3), .int .i64 (t4), .int .i64 (t5)] #[.int .i64 (6), .int .i64 ((m4 : Int))] #[.int .i64 x0, .int .i64 x1, .bool x2, .int .i64 0, .int .i64 (m4 : Int), .int .i64 (n : Int)] w' ∧ w'.cell? ⟨w.heap.size, 0, none⟩ = some (.int .i64 (t0)) ∧ w'.cell? ⟨w.heap.size, 1, none⟩ = some (.int .i64 (t1)) ∧ w'.cell? ⟨w.heap.size, 2, none⟩ = some (.int .i64 (t2)) ∧ w'.cell? ⟨w.heap.size, 3, none⟩ = some (.int .i64 (t3)) ∧ w'.cell? ⟨w.heap.size, 4, none⟩ = some (.int .i64 (t4)) ∧ w'.cell? ⟨w.heap.size, 5, none⟩ = some (.int .i64 (t5)) ∧ w'.cell? ⟨w.heap.size + 1, 0, none⟩ = some (.int .i64 (6)) ∧ w'.cell? ⟨w.heap.size + 1, 1, none⟩ = some (.int .i64 ((m4 : Int)))) ((with_reducible refine PB.full ?_; repeat' (first | (with_reducible assumption) | (with_reducible refine PB.drew ?_) | (with_reducible apply PB.time) | (with_reducible apply PB.err)))) (fail)
  rename_i hheld
  clear hheld
  go_wp2
  clear q0 q1 q2 q3 q4 q5 f0 f1 f2 f3 f4 f5 s0 s1 g0 g1 u0 u1 u2 u3 u4 u5
  have hq := PB.err (.int .i64 (6)) (.int .i64 ((m4 : Int))) (PB.time (.int .i64 (t0)) (.int .i64 (t1)) (.int .i64 (t2)) (.int .i64 (t3)) (.int .i64 (t4)) (.int .i64 (t5)) HP5.out)
  have tc := cells6 hq.1
  have td := cells2 hq.2.1
  refine bodyPost_ret (v := parR (t0) (t1) (t2) (t3) (t4) (t5) (6) ((m4 : Int))) (by simp [results, Try.results30, go_sem, *]) rfl ?_
  exact ⟨rfl, Below.drew hq.2.2.2.1⟩

set_option maxRecDepth 100000 in
set_option maxHeartbeats 3000000 in
theorem parse_gen {A : Option Addr} {n c B : Nat} {l : List UInt8} {x0 x1 x3 x4 x5 r1 r2 : Int} {x2 : Bool} (w : World) (hr : Rd w B A n l) (hB : B ≤ w.heap.size) (hc : n ≤ c) (hm : c ≤ maxLen) (hn : n ≤ 1000000)
    (hone : oneV l = (⟨x0, x1, x2, x3, x4, x5⟩, r1, r2)) (hz : r1 = 0) (hT : (x0 = 0 ∧ x2 = false) ∧ x1 = 24) {t0 t1 t2 t3 t4 t5 : Int} (hy : 2049 < t0) (hdec : ∀ (X : World) (A1 : Option Addr), Rd X X.heap.size A1 (n - x4.toNat) ((l.drop x4.toNat).take (n - x4.toNat)) → Calls Try.prog 91 #[.slice A1 (n - x4.toNat) (c - x4.toNat)] X fun e w' => e = .returned (.tuple #[Clk.time t0 t1 t2 t3 t4 t5, .int .i64 0]) ∧ Below X.heap.size X w') :
    Calls Try.prog 30 #[.slice A n c] w fun e w' => e = .returned (parR t0 t1 t2 t3 t4 t5 0 0) ∧ Below w.heap.size w w' := by
  have ON := Lib.hid (fun (X : World) (h : Below w.heap.size w X) => one_any (c := c) X (hr.below (h.mono hB)) (by have := h.size; omega) hc hm (by omega))
  have hl := hr.len
  have HR := Lib.hid hr
  rw [hone] at ON
  simp only [elR, elT] at ON
  obtain ⟨k1, k2, k3, k4, k5⟩ := one_bd (l := l) (by rw [hone]; exact hz)
  rw [hone] at k1 k2 k3 k4 k5
  simp only [] at k1 k2 k3 k4 k5
  rw [hl] at k5
  subst hz
  subst k1 k2 k5
  obtain ⟨m4, rfl⟩ := Int.eq_ofNat_of_zero_le (show 0 ≤ x4 from by omega)
  have hm4 : m4 ≤ n := by omega
  have hmc : (n : Int) ≤ (c : Int) := by omega
  simp only [Int.toNat_natCast] at hdec
  have DEC := Lib.hid hdec
  clear hdec
  have I3 := Lib.hid (fun (X : World) => is_any x0 x1 0 (m4 : Int) (n : Int) x2 0 false 23 X)
  have I4 := Lib.hid (fun (X : World) => is_any x0 x1 0 (m4 : Int) (n : Int) x2 0 false 24 X)
  have IB3 := Lib.hid (isB_not (x0 := x0) (x1 := x1) (x2 := x2) (c := 0) (n := 23) (b := false) (x3 := 0) (x4 := (m4 : Int)) (x5 := (n : Int)) (fun h => by have := h.2; have := hT.2; omega))
  rw [IB3.out] at I3
  have IB := Lib.hid (isB_iff (x3 := 0) (x4 := (m4 : Int)) (x5 := (n : Int)) hT)
  rw [IB.out] at I4
  clear hT
  clear hr hone
  go_enter Try.func30, Try.ntmps30
  go_upto_region 2 with (first | (go_at_call 88; go_must (go_fit (ON.out _ (((Below.refl _ _).alloc (Nat.le_refl _) _).alloc (by simp) _))); rintro e w1 ⟨rfl, hb1⟩; obtain ⟨t2, t3, bel⟩ := box2 hb1; have zs := hb1.size; simp only [World.size_alloc] at zs; have zs2 : w.heap.size + 1 < w1.heap.size := (by omega); obtain ⟨s0, s1⟩ := cells2 t3; obtain ⟨g0, g1⟩ := free2 t3))
  refine wp_abst (PB w w1.heap.size #[.int .i64 0, .int .i64 0, .int .i64 0, .int .i64 0, .int .i64 0, .int .i64 0] #[.int .i64 0, .int .i64 0] #[.int .i64 x0, .int .i64 x1, .bool x2, .int .i64 0, .int .i64 (m4 : Int), .int .i64 (n : Int)]) ?_ ?_
  · exact ⟨bk_old (far2 t2 (by omega) _ _), bk_old (set2 _ _ t3), bk_new (by simp), (by repeat' (first | (with_reducible exact Below.refl _ _) | (with_reducible assumption) | (with_reducible refine below_drewN ?_ _) | (with_reducible refine Below.drew ?_) | (with_reducible refine Below.alloc ?_ ?_ _) | (with_reducible refine Below.setCell ?_ ?_ _) | go_size)), by omega⟩
  intro w2 hp
  clear t2 t3 bel zs zs2 s0 s1 g0 g1 hb1 ON
  generalize w1.heap.size = b4 at *
  clear w1
  have n1 : ¬ b4 = w.heap.size := by have := hp.2.2.2.2; omega
  have n2 : ¬ w.heap.size = b4 := by have := hp.2.2.2.2; omega
  have n3 : ¬ b4 = w.heap.size + 1 := by have := hp.2.2.2.2; omega
  have n4 : ¬ w.heap.size + 1 = b4 := by have := hp.2.2.2.2; omega
  have HP2 := Lib.hid hp
  obtain ⟨tb, te, tx, -, -⟩ := hp
  obtain ⟨q0, q1, q2, q3, q4, q5⟩ := cells6 tb
  obtain ⟨f0, f1, f2, f3, f4, f5⟩ := free6 tb
  obtain ⟨s0, s1⟩ := cells2 te
  obtain ⟨g0, g1⟩ := free2 te
  obtain ⟨u0, u1, u2, u3, u4, u5⟩ := cells6 tx
  clear tb te tx
  go_upto_region 8 with (first | (go_at_call 89; go_must (go_fit (I3.out _)); rintro e w3 ⟨rfl, hb3⟩))
  refine wp_abst _ (PB.past HP2.out hb3) ?_
  intro w3 hp
  clear hb3 q0 q1 q2 q3 q4 q5 f0 f1 f2 f3 f4 f5 s0 s1 g0 g1 u0 u1 u2 u3 u4 u5
  have HP3 := Lib.hid hp
  obtain ⟨tb, te, tx, -, -⟩ := hp
  obtain ⟨q0, q1, q2, q3, q4, q5⟩ := cells6 tb
  obtain ⟨f0, f1, f2, f3, f4, f5⟩ := free6 tb
  obtain ⟨s0, s1⟩ := cells2 te
  obtain ⟨g0, g1⟩ := free2 te
  obtain ⟨u0, u1, u2, u3, u4, u5⟩ := cells6 tx
  clear tb te tx
  go_upto_region 9 with (first | (go_at_call 89; go_must (go_fit (I4.out _)); rintro e w3 ⟨rfl, hb3⟩))
  refine wp_abst _ (PB.past HP3.out hb3) ?_
  intro w4 hp
  clear hb3 q0 q1 q2 q3 q4 q5 f0 f1 f2 f3 f4 f5 s0 s1 g0 g1 u0 u1 u2 u3 u4 u5
  have HP4 := Lib.hid hp
  obtain ⟨tb, te, tx, -, -⟩ := hp
  obtain ⟨q0, q1, q2, q3, q4, q5⟩ := cells6 tb
  obtain ⟨f0, f1, f2, f3, f4, f5⟩ := free6 tb
  obtain ⟨s0, s1⟩ := cells2 te
  obtain ⟨g0, g1⟩ := free2 te
  obtain ⟨u0, u1, u2, u3, u4, u5⟩ := cells6 tx
  clear tb te tx
  have hrd := Lib.hid ((PB.rd HP4.out HR.out hB).cut (k := m4) (m := n) (cap := c) hm4 (Nat.le_refl _) hc)
  simp only [Nat.mul_one] at hrd
  generalize (if c = m4 then A else Option.map (fun x => x.add m4) A) = A1 at *
  go_upto_region 10 with (first | (go_at_call 91; go_must (go_fit (DEC.out _ _ hrd.out)); rintro e w5 ⟨rfl, hb5⟩; have hp5 := PB.past HP4.out hb5; obtain ⟨tb, te, tx, -, -⟩ := hp5; obtain ⟨qq0, qq1, qq2, qq3, qq4, qq5⟩ := cells6 tb; obtain ⟨ff0, ff1, ff2, ff3, ff4, ff5⟩ := free6 tb; clear tb te tx))
  refine wp_abst _ (PB.time (.int .i64 t0) (.int .i64 t1) (.int .i64 t2) (.int .i64 t3) (.int .i64 t4) (.int .i64 t5) (PB.past HP4.out hb5)) ?_
  intro w5 hp
  clear hb5 hrd qq0 qq1 qq2 qq3 qq4 qq5 ff0 ff1 ff2 ff3 ff4 ff5 q0 q1 q2 q3 q4 q5 f0 f1 f2 f3 f4 f5 s0 s1 g0 g1 u0 u1 u2 u3 u4 u5
  have HP5 := Lib.hid hp
  obtain ⟨tb, te, tx, -, -⟩ := hp
  obtain ⟨q0, q1, q2, q3, q4, q5⟩ := cells6 tb
  obtain ⟨f0, f1, f2, f3, f4, f5⟩ := free6 tb
  obtain ⟨s0, s1⟩ := cells2 te
  obtain ⟨g0, g1⟩ := free2 te
  obtain ⟨u0, u1, u2, u3, u4, u5⟩ := cells6 tx
  clear tb te tx
  have hpb := HP5.out
  go_upto_region 14 with fail
  go_region_held3 (fun w' => PB w b4 #[.int .i64 (t0), .int .i64 (t1), .int .i64 (t2), .int .i64 (t3), .int .i64 (t4), .int .i64 (t5)] #[.int .i64 (0), .int .i64 (0)] #[.int .i64 x0, .int .i64 x1, .bool x2, .int .i64 0, .int .i64 (m4 : Int), .int .i64 (n : Int)] w' ∧ w'.cell? ⟨w.heap.size, 0, none⟩ = some (.int .i64 (t0)) ∧ w'.cell? ⟨w.heap.size, 1, none⟩ = some (.int .i64 (t1)) ∧ w'.cell? ⟨w.heap.size, 2, none⟩ = some (.int .i64 (t2)) ∧ w'.cell? ⟨w.heap.size, 3, none⟩ = some (.int .i64 (t3)) ∧ w'.cell? ⟨w.heap.size, 4, none⟩ = some (.int .i64 (t4)) ∧ w'.cell? ⟨w.heap.size, 5, none⟩ = some (.int .i64 (t5)) ∧ w'.cell? ⟨w.heap.size + 1, 0, none⟩ = some (.int .i64 (0)) ∧ w'.cell? ⟨w.heap.size + 1, 1, none⟩ = some (.int .i64 (0))) ((with_reducible refine PB.full ?_; repeat' (first | (with_reducible assumption) | (with_reducible refine PB.drew ?_) | (with_reducible apply PB.time) | (with_reducible apply PB.err)))) (fail)
  rename_i hheld
  clear hheld
  go_wp2
  clear q0 q1 q2 q3 q4 q5 f0 f1 f2 f3 f4 f5 s0 s1 g0 g1 u0 u1 u2 u3 u4 u5
  have hq := PB.err (.int .i64 (0)) (.int .i64 (0)) (PB.time (.int .i64 (t0)) (.int .i64 (t1)) (.int .i64 (t2)) (.int .i64 (t3)) (.int .i64 (t4)) (.int .i64 (t5)) HP5.out)
  have tc := cells6 hq.1
  have td := cells2 hq.2.1
  refine bodyPost_ret (v := parR (t0) (t1) (t2) (t3) (t4) (t5) (0) (0)) (by simp [results, Try.results30, go_sem, *]) rfl ?_
  exact ⟨rfl, Below.drew hq.2.2.2.1⟩

set_option maxRecDepth 100000 in
set_option maxHeartbeats 3000000 in
theorem parse_gen_no {A : Option Addr} {n c B : Nat} {l : List UInt8} {x0 x1 x3 x4 x5 r1 r2 : Int} {x2 : Bool} (w : World) (hr : Rd w B A n l) (hB : B ≤ w.heap.size) (hc : n ≤ c) (hm : c ≤ maxLen) (hn : n ≤ 1000000)
    (hone : oneV l = (⟨x0, x1, x2, x3, x4, x5⟩, r1, r2)) (hz : r1 = 0) (hT : (x0 = 0 ∧ x2 = false) ∧ x1 = 24) {t0 t1 t2 t3 t4 t5 : Int} (hy : t0 ≤ 2049) (hdec : ∀ (X : World) (A1 : Option Addr), Rd X X.heap.size A1 (n - x4.toNat) ((l.drop x4.toNat).take (n - x4.toNat)) → Calls Try.prog 91 #[.slice A1 (n - x4.toNat) (c - x4.toNat)] X fun e w' => e = .returned (.tuple #[Clk.time t0 t1 t2 t3 t4 t5, .int .i64 6]) ∧ Below X.heap.size X w') :
    Calls Try.prog 30 #[.slice A n c] w fun e w' => e = .returned (parR 0 0 0 0 0 0 6 x4) ∧ Below w.heap.size w w' := by
  have ON := Lib.hid (fun (X : World) (h : Below w.heap.size w X) => one_any (c := c) X (hr.below (h.mono hB)) (by have := h.size; omega) hc hm (by omega))
  have hl := hr.len
  have HR := Lib.hid hr
  rw [hone] at ON
  simp only [elR, elT] at ON
  obtain ⟨k1, k2, k3, k4, k5⟩ := one_bd (l := l) (by rw [hone]; exact hz)
  rw [hone] at k1 k2 k3 k4 k5
  simp only [] at k1 k2 k3 k4 k5
  rw [hl] at k5
  subst hz
  subst k1 k2 k5
  obtain ⟨m4, rfl⟩ := Int.eq_ofNat_of_zero_le (show 0 ≤ x4 from by omega)
  have hm4 : m4 ≤ n := by omega
  have hmc : (n : Int) ≤ (c : Int) := by omega
  simp only [Int.toNat_natCast] at hdec
  have DEC := Lib.hid hdec
  clear hdec
  have I3 := Lib.hid (fun (X : World) => is_any x0 x1 0 (m4 : Int) (n : Int) x2 0 false 23 X)
  have I4 := Lib.hid (fun (X : World) => is_any x0 x1 0 (m4 : Int) (n : Int) x2 0 false 24 X)
  have IB3 := Lib.hid (isB_not (x0 := x0) (x1 := x1) (x2 := x2) (c := 0) (n := 23) (b := false) (x3 := 0) (x4 := (m4 : Int)) (x5 := (n : Int)) (fun h => by have := h.2; have := hT.2; omega))
  rw [IB3.out] at I3
  have IB := Lib.hid (isB_iff (x3 := 0) (x4 := (m4 : Int)) (x5 := (n : Int)) hT)
  rw [IB.out] at I4
  clear hT
  clear hr hone
  go_enter Try.func30, Try.ntmps30
  go_upto_region 2 with (first | (go_at_call 88; go_must (go_fit (ON.out _ (((Below.refl _ _).alloc (Nat.le_refl _) _).alloc (by simp) _))); rintro e w1 ⟨rfl, hb1⟩; obtain ⟨t2, t3, bel⟩ := box2 hb1; have zs := hb1.size; simp only [World.size_alloc] at zs; have zs2 : w.heap.size + 1 < w1.heap.size := (by omega); obtain ⟨s0, s1⟩ := cells2 t3; obtain ⟨g0, g1⟩ := free2 t3))
  refine wp_abst (PB w w1.heap.size #[.int .i64 0, .int .i64 0, .int .i64 0, .int .i64 0, .int .i64 0, .int .i64 0] #[.int .i64 0, .int .i64 0] #[.int .i64 x0, .int .i64 x1, .bool x2, .int .i64 0, .int .i64 (m4 : Int), .int .i64 (n : Int)]) ?_ ?_
  · exact ⟨bk_old (far2 t2 (by omega) _ _), bk_old (set2 _ _ t3), bk_new (by simp), (by repeat' (first | (with_reducible exact Below.refl _ _) | (with_reducible assumption) | (with_reducible refine below_drewN ?_ _) | (with_reducible refine Below.drew ?_) | (with_reducible refine Below.alloc ?_ ?_ _) | (with_reducible refine Below.setCell ?_ ?_ _) | go_size)), by omega⟩
  intro w2 hp
  clear t2 t3 bel zs zs2 s0 s1 g0 g1 hb1 ON
  generalize w1.heap.size = b4 at *
  clear w1
  have n1 : ¬ b4 = w.heap.size := by have := hp.2.2.2.2; omega
  have n2 : ¬ w.heap.size = b4 := by have := hp.2.2.2.2; omega
  have n3 : ¬ b4 = w.heap.size + 1 := by have := hp.2.2.2.2; omega
  have n4 : ¬ w.heap.size + 1 = b4 := by have := hp.2.2.2.2; omega
  have HP2 := Lib.hid hp
  obtain ⟨tb, te, tx, -, -⟩ := hp
  obtain ⟨q0, q1, q2, q3, q4, q5⟩ := cells6 tb
  obtain ⟨f0, f1, f2, f3, f4, f5⟩ := free6 tb
  obtain ⟨s0, s1⟩ := cells2 te
  obtain ⟨g0, g1⟩ := free2 te
  obtain ⟨u0, u1, u2, u3, u4, u5⟩ := cells6 tx
  clear tb te tx
  go_upto_region 8 with (first | (go_at_call 89; go_must (go_fit (I3.out _)); rintro e w3 ⟨rfl, hb3⟩))
  refine wp_abst _ (PB.past HP2.out hb3) ?_
  intro w3 hp
  clear hb3 q0 q1 q2 q3 q4 q5 f0 f1 f2 f3 f4 f5 s0 s1 g0 g1 u0 u1 u2 u3 u4 u5
  have HP3 := Lib.hid hp
  obtain ⟨tb, te, tx, -, -⟩ := hp
  obtain ⟨q0, q1, q2, q3, q4, q5⟩ := cells6 tb
  obtain ⟨f0, f1, f2, f3, f4, f5⟩ := free6 tb
  obtain ⟨s0, s1⟩ := cells2 te
  obtain ⟨g0, g1⟩ := free2 te
  obtain ⟨u0, u1, u2, u3, u4, u5⟩ := cells6 tx
  clear tb te tx
  go_upto_region 9 with (first | (go_at_call 89; go_must (go_fit (I4.out _)); rintro e w3 ⟨rfl, hb3⟩))
  refine wp_abst _ (PB.past HP3.out hb3) ?_
  intro w4 hp
  clear hb3 q0 q1 q2 q3 q4 q5 f0 f1 f2 f3 f4 f5 s0 s1 g0 g1 u0 u1 u2 u3 u4 u5
  have HP4 := Lib.hid hp
  obtain ⟨tb, te, tx, -, -⟩ := hp
  obtain ⟨q0, q1, q2, q3, q4, q5⟩ := cells6 tb
  obtain ⟨f0, f1, f2, f3, f4, f5⟩ := free6 tb
  obtain ⟨s0, s1⟩ := cells2 te
  obtain ⟨g0, g1⟩ := free2 te
  obtain ⟨u0, u1, u2, u3, u4, u5⟩ := cells6 tx
  clear tb te tx
  have hrd := Lib.hid ((PB.rd HP4.out HR.out hB).cut (k := m4) (m := n) (cap := c) hm4 (Nat.le_refl _) hc)
  simp only [Nat.mul_one] at hrd
  generalize (if c = m4 then A else Option.map (fun x => x.add m4) A) = A1 at *
  go_upto_region 10 with (first | (go_at_call 91; go_must (go_fit (DEC.out _ _ hrd.out)); rintro e w5 ⟨rfl, hb5⟩; have hp5 := PB.past HP4.out hb5; obtain ⟨tb, te, tx, -, -⟩ := hp5; obtain ⟨qq0, qq1, qq2, qq3, qq4, qq5⟩ := cells6 tb; obtain ⟨ff0, ff1, ff2, ff3, ff4, ff5⟩ := free6 tb; clear tb te tx))
  refine wp_abst _ (PB.time (.int .i64 t0) (.int .i64 t1) (.int .i64 t2) (.int .i64 t3) (.int .i64 t4) (.int .i64 t5) (PB.past HP4.out hb5)) ?_
  intro w5 hp
  clear hb5 hrd qq0 qq1 qq2 qq3 qq4 qq5 ff0 ff1 ff2 ff3 ff4 ff5 q0 q1 q2 q3 q4 q5 f0 f1 f2 f3 f4 f5 s0 s1 g0 g1 u0 u1 u2 u3 u4 u5
  have HP5 := Lib.hid hp
  obtain ⟨tb, te, tx, -, -⟩ := hp
  obtain ⟨q0, q1, q2, q3, q4, q5⟩ := cells6 tb
  obtain ⟨f0, f1, f2, f3, f4, f5⟩ := free6 tb
  obtain ⟨s0, s1⟩ := cells2 te
  obtain ⟨g0, g1⟩ := free2 te
  obtain ⟨u0, u1, u2, u3, u4, u5⟩ := cells6 tx
  clear tb te tx
  go_upto_region 12 with fail
  refine wp_abst _ (PB.time (.int .i64 0) (.int .i64 0) (.int .i64 0) (.int .i64 0) (.int .i64 0) (.int .i64 0) HP5.out) ?_
  intro w6 hp
  clear q0 q1 q2 q3 q4 q5 f0 f1 f2 f3 f4 f5 s0 s1 g0 g1 u0 u1 u2 u3 u4 u5
  have HP6 := Lib.hid hp
  obtain ⟨tb, te, tx, -, -⟩ := hp
  obtain ⟨q0, q1, q2, q3, q4, q5⟩ := cells6 tb
  obtain ⟨f0, f1, f2, f3, f4, f5⟩ := free6 tb
  obtain ⟨s0, s1⟩ := cells2 te
  obtain ⟨g0, g1⟩ := free2 te
  obtain ⟨u0, u1, u2, u3, u4, u5⟩ := cells6 tx
  clear tb te tx
  go_upto_region 14 with fail
  refine wp_abst _ (PB.err (.int .i64 6) (.int .i64 (m4 : Int)) HP6.out) ?_
  intro w7 hp
  clear q0 q1 q2 q3 q4 q5 f0 f1 f2 f3 f4 f5 s0 s1 g0 g1 u0 u1 u2 u3 u4 u5
  have HP7 := Lib.hid hp
  obtain ⟨tb, te, tx, -, -⟩ := hp
  obtain ⟨q0, q1, q2, q3, q4, q5⟩ := cells6 tb
  obtain ⟨f0, f1, f2, f3, f4, f5⟩ := free6 tb
  obtain ⟨s0, s1⟩ := cells2 te
  obtain ⟨g0, g1⟩ := free2 te
  obtain ⟨u0, u1, u2, u3, u4, u5⟩ := cells6 tx
  clear tb te tx
  have hpb := HP7.out
  go_upto_region 14 with fail
  go_region_held3 (fun w' => PB w b4 #[.int .i64 (0), .int .i64 (0), .int .i64 (0), .int .i64 (0), .int .i64 (0), .int .i64 (0)] #[.int .i64 (6), .int .i64 ((m4 : Int))] #[.int .i64 x0, .int .i64 x1, .bool x2, .int .i64 0, .int .i64 (m4 : Int), .int .i64 (n : Int)] w' ∧ w'.cell? ⟨w.heap.size, 0, none⟩ = some (.int .i64 (0)) ∧ w'.cell? ⟨w.heap.size, 1, none⟩ = some (.int .i64 (0)) ∧ w'.cell? ⟨w.heap.size, 2, none⟩ = some (.int .i64 (0)) ∧ w'.cell? ⟨w.heap.size, 3, none⟩ = some (.int .i64 (0)) ∧ w'.cell? ⟨w.heap.size, 4, none⟩ = some (.int .i64 (0)) ∧ w'.cell? ⟨w.heap.size, 5, none⟩ = some (.int .i64 (0)) ∧ w'.cell? ⟨w.heap.size + 1, 0, none⟩ = some (.int .i64 (6)) ∧ w'.cell? ⟨w.heap.size + 1, 1, none⟩ = some (.int .i64 ((m4 : Int)))) ((with_reducible refine PB.full ?_; repeat' (first | (with_reducible assumption) | (with_reducible refine PB.drew ?_) | (with_reducible apply PB.time) | (with_reducible apply PB.err)))) (fail)
  rename_i hheld
  clear hheld
  go_wp2
  clear q0 q1 q2 q3 q4 q5 f0 f1 f2 f3 f4 f5 s0 s1 g0 g1 u0 u1 u2 u3 u4 u5
  have hq := PB.err (.int .i64 (6)) (.int .i64 ((m4 : Int))) (PB.time (.int .i64 (0)) (.int .i64 (0)) (.int .i64 (0)) (.int .i64 (0)) (.int .i64 (0)) (.int .i64 (0)) HP7.out)
  have tc := cells6 hq.1
  have td := cells2 hq.2.1
  refine bodyPost_ret (v := parR (0) (0) (0) (0) (0) (0) (6) ((m4 : Int))) (by simp [results, Try.results30, go_sem, *]) rfl ?_
  exact ⟨rfl, Below.drew hq.2.2.2.1⟩

set_option maxRecDepth 100000 in
set_option maxHeartbeats 3000000 in
theorem parse_gen_early {A : Option Addr} {n c B : Nat} {l : List UInt8} {x0 x1 x3 x4 x5 r1 r2 : Int} {x2 : Bool} (w : World) (hr : Rd w B A n l) (hB : B ≤ w.heap.size) (hc : n ≤ c) (hm : c ≤ maxLen) (hn : n ≤ 1000000)
    (hone : oneV l = (⟨x0, x1, x2, x3, x4, x5⟩, r1, r2)) (hz : r1 = 0) (hT : (x0 = 0 ∧ x2 = false) ∧ x1 = 24) {t0 t1 t2 t3 t4 t5 : Int} (hy : t0 ≤ 2049) (hdec : ∀ (X : World) (A1 : Option Addr), Rd X X.heap.size A1 (n - x4.toNat) ((l.drop x4.toNat).take (n - x4.toNat)) → Calls Try.prog 91 #[.slice A1 (n - x4.toNat) (c - x4.toNat)] X fun e w' => e = .returned (.tuple #[Clk.time t0 t1 t2 t3 t4 t5, .int .i64 0]) ∧ Below X.heap.size X w') :
    Calls Try.prog 30 #[.slice A n c] w fun e w' => e = .returned (parR 0 0 0 0 0 0 6 x4) ∧ Below w.heap.size w w' := by
  have ON := Lib.hid (fun (X : World) (h : Below w.heap.size w X) => one_any (c := c) X (hr.below (h.mono hB)) (by have := h.size; omega) hc hm (by omega))
  have hl := hr.len
  have HR := Lib.hid hr
  rw [hone] at ON
  simp only [elR, elT] at ON
  obtain ⟨k1, k2, k3, k4, k5⟩ := one_bd (l := l) (by rw [hone]; exact hz)
  rw [hone] at k1 k2 k3 k4 k5
  simp only [] at k1 k2 k3 k4 k5
  rw [hl] at k5
  subst hz
  subst k1 k2 k5
  obtain ⟨m4, rfl⟩ := Int.eq_ofNat_of_zero_le (show 0 ≤ x4 from by omega)
  have hm4 : m4 ≤ n := by omega
  have hmc : (n : Int) ≤ (c : Int) := by omega
  simp only [Int.toNat_natCast] at hdec
  have DEC := Lib.hid hdec
  clear hdec
  have I3 := Lib.hid (fun (X : World) => is_any x0 x1 0 (m4 : Int) (n : Int) x2 0 false 23 X)
  have I4 := Lib.hid (fun (X : World) => is_any x0 x1 0 (m4 : Int) (n : Int) x2 0 false 24 X)
  have IB3 := Lib.hid (isB_not (x0 := x0) (x1 := x1) (x2 := x2) (c := 0) (n := 23) (b := false) (x3 := 0) (x4 := (m4 : Int)) (x5 := (n : Int)) (fun h => by have := h.2; have := hT.2; omega))
  rw [IB3.out] at I3
  have IB := Lib.hid (isB_iff (x3 := 0) (x4 := (m4 : Int)) (x5 := (n : Int)) hT)
  rw [IB.out] at I4
  clear hT
  clear hr hone
  go_enter Try.func30, Try.ntmps30
  go_upto_region 2 with (first | (go_at_call 88; go_must (go_fit (ON.out _ (((Below.refl _ _).alloc (Nat.le_refl _) _).alloc (by simp) _))); rintro e w1 ⟨rfl, hb1⟩; obtain ⟨t2, t3, bel⟩ := box2 hb1; have zs := hb1.size; simp only [World.size_alloc] at zs; have zs2 : w.heap.size + 1 < w1.heap.size := (by omega); obtain ⟨s0, s1⟩ := cells2 t3; obtain ⟨g0, g1⟩ := free2 t3))
  refine wp_abst (PB w w1.heap.size #[.int .i64 0, .int .i64 0, .int .i64 0, .int .i64 0, .int .i64 0, .int .i64 0] #[.int .i64 0, .int .i64 0] #[.int .i64 x0, .int .i64 x1, .bool x2, .int .i64 0, .int .i64 (m4 : Int), .int .i64 (n : Int)]) ?_ ?_
  · exact ⟨bk_old (far2 t2 (by omega) _ _), bk_old (set2 _ _ t3), bk_new (by simp), (by repeat' (first | (with_reducible exact Below.refl _ _) | (with_reducible assumption) | (with_reducible refine below_drewN ?_ _) | (with_reducible refine Below.drew ?_) | (with_reducible refine Below.alloc ?_ ?_ _) | (with_reducible refine Below.setCell ?_ ?_ _) | go_size)), by omega⟩
  intro w2 hp
  clear t2 t3 bel zs zs2 s0 s1 g0 g1 hb1 ON
  generalize w1.heap.size = b4 at *
  clear w1
  have n1 : ¬ b4 = w.heap.size := by have := hp.2.2.2.2; omega
  have n2 : ¬ w.heap.size = b4 := by have := hp.2.2.2.2; omega
  have n3 : ¬ b4 = w.heap.size + 1 := by have := hp.2.2.2.2; omega
  have n4 : ¬ w.heap.size + 1 = b4 := by have := hp.2.2.2.2; omega
  have HP2 := Lib.hid hp
  obtain ⟨tb, te, tx, -, -⟩ := hp
  obtain ⟨q0, q1, q2, q3, q4, q5⟩ := cells6 tb
  obtain ⟨f0, f1, f2, f3, f4, f5⟩ := free6 tb
  obtain ⟨s0, s1⟩ := cells2 te
  obtain ⟨g0, g1⟩ := free2 te
  obtain ⟨u0, u1, u2, u3, u4, u5⟩ := cells6 tx
  clear tb te tx
  go_upto_region 8 with (first | (go_at_call 89; go_must (go_fit (I3.out _)); rintro e w3 ⟨rfl, hb3⟩))
  refine wp_abst _ (PB.past HP2.out hb3) ?_
  intro w3 hp
  clear hb3 q0 q1 q2 q3 q4 q5 f0 f1 f2 f3 f4 f5 s0 s1 g0 g1 u0 u1 u2 u3 u4 u5
  have HP3 := Lib.hid hp
  obtain ⟨tb, te, tx, -, -⟩ := hp
  obtain ⟨q0, q1, q2, q3, q4, q5⟩ := cells6 tb
  obtain ⟨f0, f1, f2, f3, f4, f5⟩ := free6 tb
  obtain ⟨s0, s1⟩ := cells2 te
  obtain ⟨g0, g1⟩ := free2 te
  obtain ⟨u0, u1, u2, u3, u4, u5⟩ := cells6 tx
  clear tb te tx
  go_upto_region 9 with (first | (go_at_call 89; go_must (go_fit (I4.out _)); rintro e w3 ⟨rfl, hb3⟩))
  refine wp_abst _ (PB.past HP3.out hb3) ?_
  intro w4 hp
  clear hb3 q0 q1 q2 q3 q4 q5 f0 f1 f2 f3 f4 f5 s0 s1 g0 g1 u0 u1 u2 u3 u4 u5
  have HP4 := Lib.hid hp
  obtain ⟨tb, te, tx, -, -⟩ := hp
  obtain ⟨q0, q1, q2, q3, q4, q5⟩ := cells6 tb
  obtain ⟨f0, f1, f2, f3, f4, f5⟩ := free6 tb
  obtain ⟨s0, s1⟩ := cells2 te
  obtain ⟨g0, g1⟩ := free2 te
  obtain ⟨u0, u1, u2, u3, u4, u5⟩ := cells6 tx
  clear tb te tx
  have hrd := Lib.hid ((PB.rd HP4.out HR.out hB).cut (k := m4) (m := n) (cap := c) hm4 (Nat.le_refl _) hc)
  simp only [Nat.mul_one] at hrd
  generalize (if c = m4 then A else Option.map (fun x => x.add m4) A) = A1 at *
  go_upto_region 10 with (first | (go_at_call 91; go_must (go_fit (DEC.out _ _ hrd.out)); rintro e w5 ⟨rfl, hb5⟩; have hp5 := PB.past HP4.out hb5; obtain ⟨tb, te, tx, -, -⟩ := hp5; obtain ⟨qq0, qq1, qq2, qq3, qq4, qq5⟩ := cells6 tb; obtain ⟨ff0, ff1, ff2, ff3, ff4, ff5⟩ := free6 tb; clear tb te tx))
  refine wp_abst _ (PB.time (.int .i64 t0) (.int .i64 t1) (.int .i64 t2) (.int .i64 t3) (.int .i64 t4) (.int .i64 t5) (PB.past HP4.out hb5)) ?_
  intro w5 hp
  clear hb5 hrd qq0 qq1 qq2 qq3 qq4 qq5 ff0 ff1 ff2 ff3 ff4 ff5 q0 q1 q2 q3 q4 q5 f0 f1 f2 f3 f4 f5 s0 s1 g0 g1 u0 u1 u2 u3 u4 u5
  have HP5 := Lib.hid hp
  obtain ⟨tb, te, tx, -, -⟩ := hp
  obtain ⟨q0, q1, q2, q3, q4, q5⟩ := cells6 tb
  obtain ⟨f0, f1, f2, f3, f4, f5⟩ := free6 tb
  obtain ⟨s0, s1⟩ := cells2 te
  obtain ⟨g0, g1⟩ := free2 te
  obtain ⟨u0, u1, u2, u3, u4, u5⟩ := cells6 tx
  clear tb te tx
  go_upto_region 12 with fail
  refine wp_abst _ (PB.time (.int .i64 0) (.int .i64 0) (.int .i64 0) (.int .i64 0) (.int .i64 0) (.int .i64 0) HP5.out) ?_
  intro w6 hp
  clear q0 q1 q2 q3 q4 q5 f0 f1 f2 f3 f4 f5 s0 s1 g0 g1 u0 u1 u2 u3 u4 u5
  have HP6 := Lib.hid hp
  obtain ⟨tb, te, tx, -, -⟩ := hp
  obtain ⟨q0, q1, q2, q3, q4, q5⟩ := cells6 tb
  obtain ⟨f0, f1, f2, f3, f4, f5⟩ := free6 tb
  obtain ⟨s0, s1⟩ := cells2 te
  obtain ⟨g0, g1⟩ := free2 te
  obtain ⟨u0, u1, u2, u3, u4, u5⟩ := cells6 tx
  clear tb te tx
  go_upto_region 14 with fail
  refine wp_abst _ (PB.err (.int .i64 6) (.int .i64 (m4 : Int)) HP6.out) ?_
  intro w7 hp
  clear q0 q1 q2 q3 q4 q5 f0 f1 f2 f3 f4 f5 s0 s1 g0 g1 u0 u1 u2 u3 u4 u5
  have HP7 := Lib.hid hp
  obtain ⟨tb, te, tx, -, -⟩ := hp
  obtain ⟨q0, q1, q2, q3, q4, q5⟩ := cells6 tb
  obtain ⟨f0, f1, f2, f3, f4, f5⟩ := free6 tb
  obtain ⟨s0, s1⟩ := cells2 te
  obtain ⟨g0, g1⟩ := free2 te
  obtain ⟨u0, u1, u2, u3, u4, u5⟩ := cells6 tx
  clear tb te tx
  have hpb := HP7.out
  go_upto_region 14 with fail
  go_region_held3 (fun w' => PB w b4 #[.int .i64 (0), .int .i64 (0), .int .i64 (0), .int .i64 (0), .int .i64 (0), .int .i64 (0)] #[.int .i64 (6), .int .i64 ((m4 : Int))] #[.int .i64 x0, .int .i64 x1, .bool x2, .int .i64 0, .int .i64 (m4 : Int), .int .i64 (n : Int)] w' ∧ w'.cell? ⟨w.heap.size, 0, none⟩ = some (.int .i64 (0)) ∧ w'.cell? ⟨w.heap.size, 1, none⟩ = some (.int .i64 (0)) ∧ w'.cell? ⟨w.heap.size, 2, none⟩ = some (.int .i64 (0)) ∧ w'.cell? ⟨w.heap.size, 3, none⟩ = some (.int .i64 (0)) ∧ w'.cell? ⟨w.heap.size, 4, none⟩ = some (.int .i64 (0)) ∧ w'.cell? ⟨w.heap.size, 5, none⟩ = some (.int .i64 (0)) ∧ w'.cell? ⟨w.heap.size + 1, 0, none⟩ = some (.int .i64 (6)) ∧ w'.cell? ⟨w.heap.size + 1, 1, none⟩ = some (.int .i64 ((m4 : Int)))) ((with_reducible refine PB.full ?_; repeat' (first | (with_reducible assumption) | (with_reducible refine PB.drew ?_) | (with_reducible apply PB.time) | (with_reducible apply PB.err)))) (fail)
  rename_i hheld
  clear hheld
  go_wp2
  clear q0 q1 q2 q3 q4 q5 f0 f1 f2 f3 f4 f5 s0 s1 g0 g1 u0 u1 u2 u3 u4 u5
  have hq := PB.err (.int .i64 (6)) (.int .i64 ((m4 : Int))) (PB.time (.int .i64 (0)) (.int .i64 (0)) (.int .i64 (0)) (.int .i64 (0)) (.int .i64 (0)) (.int .i64 (0)) HP7.out)
  have tc := cells6 hq.1
  have td := cells2 hq.2.1
  refine bodyPost_ret (v := parR (0) (0) (0) (0) (0) (0) (6) ((m4 : Int))) (by simp [results, Try.results30, go_sem, *]) rfl ?_
  exact ⟨rfl, Below.drew hq.2.2.2.1⟩

set_option maxRecDepth 100000 in
set_option maxHeartbeats 3000000 in
theorem parse_tag {A : Option Addr} {n c B : Nat} {l : List UInt8} {x0 x1 x3 x4 x5 r1 r2 : Int} {x2 : Bool} (w : World) (hr : Rd w B A n l) (hB : B ≤ w.heap.size) (hc : n ≤ c) (hm : c ≤ maxLen) (hn : n ≤ 1000000)
    (hone : oneV l = (⟨x0, x1, x2, x3, x4, x5⟩, r1, r2)) (hz : r1 = 0) (hT : ¬ ((x0 = 0 ∧ x2 = false) ∧ x1 = 23)) (hT4 : ¬ ((x0 = 0 ∧ x2 = false) ∧ x1 = 24)) :
    Calls Try.prog 30 #[.slice A n c] w fun e w' => e = .returned (parR 0 0 0 0 0 0 3 x4) ∧ Below w.heap.size w w' := by
  have ON := Lib.hid (fun (X : World) (h : Below w.heap.size w X) => one_any (c := c) X (hr.below (h.mono hB)) (by have := h.size; omega) hc hm (by omega))
  have hl := hr.len
  have HR := Lib.hid hr
  rw [hone] at ON
  simp only [elR, elT] at ON
  obtain ⟨k1, k2, k3, k4, k5⟩ := one_bd (l := l) (by rw [hone]; exact hz)
  rw [hone] at k1 k2 k3 k4 k5
  simp only [] at k1 k2 k3 k4 k5
  rw [hl] at k5
  subst hz
  subst k1 k2 k5
  obtain ⟨m4, rfl⟩ := Int.eq_ofNat_of_zero_le (show 0 ≤ x4 from by omega)
  have hm4 : m4 ≤ n := by omega
  have hmc : (n : Int) ≤ (c : Int) := by omega
  have I3 := Lib.hid (fun (X : World) => is_any x0 x1 0 (m4 : Int) (n : Int) x2 0 false 23 X)
  have I4 := Lib.hid (fun (X : World) => is_any x0 x1 0 (m4 : Int) (n : Int) x2 0 false 24 X)
  have IB3 := Lib.hid (isB_not (x3 := 0) (x4 := (m4 : Int)) (x5 := (n : Int)) hT)
  rw [IB3.out] at I3
  have IB := Lib.hid (isB_not (x3 := 0) (x4 := (m4 : Int)) (x5 := (n : Int)) hT4)
  rw [IB.out] at I4
  clear hT hT4
  clear hr hone
  go_enter Try.func30, Try.ntmps30
  go_upto_region 2 with (first | (go_at_call 88; go_must (go_fit (ON.out _ (((Below.refl _ _).alloc (Nat.le_refl _) _).alloc (by simp) _))); rintro e w1 ⟨rfl, hb1⟩; obtain ⟨t2, t3, bel⟩ := box2 hb1; have zs := hb1.size; simp only [World.size_alloc] at zs; have zs2 : w.heap.size + 1 < w1.heap.size := (by omega); obtain ⟨s0, s1⟩ := cells2 t3; obtain ⟨g0, g1⟩ := free2 t3))
  refine wp_abst (PB w w1.heap.size #[.int .i64 0, .int .i64 0, .int .i64 0, .int .i64 0, .int .i64 0, .int .i64 0] #[.int .i64 0, .int .i64 0] #[.int .i64 x0, .int .i64 x1, .bool x2, .int .i64 0, .int .i64 (m4 : Int), .int .i64 (n : Int)]) ?_ ?_
  · exact ⟨bk_old (far2 t2 (by omega) _ _), bk_old (set2 _ _ t3), bk_new (by simp), (by repeat' (first | (with_reducible exact Below.refl _ _) | (with_reducible assumption) | (with_reducible refine below_drewN ?_ _) | (with_reducible refine Below.drew ?_) | (with_reducible refine Below.alloc ?_ ?_ _) | (with_reducible refine Below.setCell ?_ ?_ _) | go_size)), by omega⟩
  intro w2 hp
  clear t2 t3 bel zs zs2 s0 s1 g0 g1 hb1 ON
  generalize w1.heap.size = b4 at *
  clear w1
  have n1 : ¬ b4 = w.heap.size := by have := hp.2.2.2.2; omega
  have n2 : ¬ w.heap.size = b4 := by have := hp.2.2.2.2; omega
  have n3 : ¬ b4 = w.heap.size + 1 := by have := hp.2.2.2.2; omega
  have n4 : ¬ w.heap.size + 1 = b4 := by have := hp.2.2.2.2; omega
  have HP2 := Lib.hid hp
  obtain ⟨tb, te, tx, -, -⟩ := hp
  obtain ⟨q0, q1, q2, q3, q4, q5⟩ := cells6 tb
  obtain ⟨f0, f1, f2, f3, f4, f5⟩ := free6 tb
  obtain ⟨s0, s1⟩ := cells2 te
  obtain ⟨g0, g1⟩ := free2 te
  obtain ⟨u0, u1, u2, u3, u4, u5⟩ := cells6 tx
  clear tb te tx
  go_upto_region 8 with (first | (go_at_call 89; go_must (go_fit (I3.out _)); rintro e w3 ⟨rfl, hb3⟩))
  refine wp_abst _ (PB.past HP2.out hb3) ?_
  intro w3 hp
  clear hb3 q0 q1 q2 q3 q4 q5 f0 f1 f2 f3 f4 f5 s0 s1 g0 g1 u0 u1 u2 u3 u4 u5
  generalize (if c = m4 then A else Option.map (fun x => x.add m4) A) = A1 at *
  have HP3 := Lib.hid hp
  obtain ⟨tb, te, tx, -, -⟩ := hp
  obtain ⟨q0, q1, q2, q3, q4, q5⟩ := cells6 tb
  obtain ⟨f0, f1, f2, f3, f4, f5⟩ := free6 tb
  obtain ⟨s0, s1⟩ := cells2 te
  obtain ⟨g0, g1⟩ := free2 te
  obtain ⟨u0, u1, u2, u3, u4, u5⟩ := cells6 tx
  clear tb te tx
  go_upto_region 12 with (first | (go_at_call 89; go_must (go_fit (I4.out _)); rintro e w3 ⟨rfl, hb3⟩))
  refine wp_abst _ (PB.past HP3.out hb3) ?_
  intro w4 hp
  clear hb3 q0 q1 q2 q3 q4 q5 f0 f1 f2 f3 f4 f5 s0 s1 g0 g1 u0 u1 u2 u3 u4 u5
  have HP4 := Lib.hid hp
  obtain ⟨tb, te, tx, -, -⟩ := hp
  obtain ⟨q0, q1, q2, q3, q4, q5⟩ := cells6 tb
  obtain ⟨f0, f1, f2, f3, f4, f5⟩ := free6 tb
  obtain ⟨s0, s1⟩ := cells2 te
  obtain ⟨g0, g1⟩ := free2 te
  obtain ⟨u0, u1, u2, u3, u4, u5⟩ := cells6 tx
  clear tb te tx
  go_upto_region 14 with fail
  refine wp_abst _ (PB.err (.int .i64 3) (.int .i64 (m4 : Int)) HP4.out) ?_
  intro w5 hp
  clear q0 q1 q2 q3 q4 q5 f0 f1 f2 f3 f4 f5 s0 s1 g0 g1 u0 u1 u2 u3 u4 u5
  have HP5 := Lib.hid hp
  obtain ⟨tb, te, tx, -, -⟩ := hp
  obtain ⟨q0, q1, q2, q3, q4, q5⟩ := cells6 tb
  obtain ⟨f0, f1, f2, f3, f4, f5⟩ := free6 tb
  obtain ⟨s0, s1⟩ := cells2 te
  obtain ⟨g0, g1⟩ := free2 te
  obtain ⟨u0, u1, u2, u3, u4, u5⟩ := cells6 tx
  clear tb te tx
  have hpb := HP5.out
  go_upto_region 14 with fail
  go_region_held3 (fun w' => PB w b4 #[.int .i64 (0), .int .i64 (0), .int .i64 (0), .int .i64 (0), .int .i64 (0), .int .i64 (0)] #[.int .i64 (3), .int .i64 ((m4 : Int))] #[.int .i64 x0, .int .i64 x1, .bool x2, .int .i64 0, .int .i64 (m4 : Int), .int .i64 (n : Int)] w' ∧ w'.cell? ⟨w.heap.size, 0, none⟩ = some (.int .i64 (0)) ∧ w'.cell? ⟨w.heap.size, 1, none⟩ = some (.int .i64 (0)) ∧ w'.cell? ⟨w.heap.size, 2, none⟩ = some (.int .i64 (0)) ∧ w'.cell? ⟨w.heap.size, 3, none⟩ = some (.int .i64 (0)) ∧ w'.cell? ⟨w.heap.size, 4, none⟩ = some (.int .i64 (0)) ∧ w'.cell? ⟨w.heap.size, 5, none⟩ = some (.int .i64 (0)) ∧ w'.cell? ⟨w.heap.size + 1, 0, none⟩ = some (.int .i64 (3)) ∧ w'.cell? ⟨w.heap.size + 1, 1, none⟩ = some (.int .i64 ((m4 : Int)))) ((with_reducible refine PB.full ?_; repeat' (first | (with_reducible assumption) | (with_reducible refine PB.drew ?_) | (with_reducible apply PB.time) | (with_reducible apply PB.err)))) (fail)
  rename_i hheld
  clear hheld
  go_wp2
  clear q0 q1 q2 q3 q4 q5 f0 f1 f2 f3 f4 f5 s0 s1 g0 g1 u0 u1 u2 u3 u4 u5
  have hq := PB.err (.int .i64 (3)) (.int .i64 ((m4 : Int))) (PB.time (.int .i64 (0)) (.int .i64 (0)) (.int .i64 (0)) (.int .i64 (0)) (.int .i64 (0)) (.int .i64 (0)) HP5.out)
  have tc := cells6 hq.1
  have td := cells2 hq.2.1
  refine bodyPost_ret (v := parR (0) (0) (0) (0) (0) (0) (3) ((m4 : Int))) (by simp [results, Try.results30, go_sem, *]) rfl ?_
  exact ⟨rfl, Below.drew hq.2.2.2.1⟩
end Go.Proofs.Ytnpmgofkfdpbjaa.Val
/- What Parse of validity returns: the time whose encoding the bytes are, or an error. -/
namespace Go.Proofs.Ytnpmgofkfdpbjaa.Val
open Go.RowKit Kit Tlv

/-- Parse of bytes that are the encoding of a time -/
def ParOk (w : World) (args : Array Value) (l : List UInt8) : Prop :=
  ∃ y m d h mi s, valB y m d h mi s = true ∧ l = valL y m d h mi s ∧ Calls Try.prog 30 args w fun e w' => e = .returned (parR y m d h mi s 0 0) ∧ Below w.heap.size w w'
/-- Parse of other bytes -/
def ParNo (w : World) (args : Array Value) (l : List UInt8) : Prop :=
  (∀ y m d h mi s, valB y m d h mi s = true → l ≠ valL y m d h mi s) ∧
    ∃ code off, 0 < code ∧ 0 ≤ off ∧ off ≤ (l.length : Int) ∧ Calls Try.prog 30 args w fun e w' => e = .returned (parR 0 0 0 0 0 0 code off) ∧ Below w.heap.size w w'

theorem parseV_any {A : Option Addr} {n c B : Nat} {l : List UInt8} (w : World) (hr : Rd w B A n l) (hB : B ≤ w.heap.size) (hc : n ≤ c) (hm : c ≤ maxLen) (hn : n ≤ 100000) :
    ParOk w #[.slice A n c] l ∨ ParNo w #[.slice A n c] l := by
  have hl := hr.len
  by_cases hz : (oneV l).2.1 = 0
  · obtain ⟨k1, k2, k3⟩ := one_con hz
    obtain ⟨d1, d2, d3, d4, d5⟩ := one_bd hz
    generalize hk : (nx l).con = k at *
    generalize hone : oneV l = q at hz k1 k2 k3 d1 d2 d3 d4 d5
    obtain ⟨⟨x0, x1, x2, x3, x4, x5⟩, r1, r2⟩ := q
    simp only [] at hz k1 k2 k3 d1 d2 d3 d4 d5
    rw [hl] at k1
    by_cases hT : (x0 = 0 ∧ x2 = false) ∧ x1 = 23
    · have hT' := hT
      obtain ⟨⟨rfl, rfl⟩, rfl⟩ := hT
      by_cases ok : Clk.okU k
      · obtain ⟨v1, v2⟩ := val_ofU ok
        refine .inl ⟨_, _, _, _, _, _, v1, k2.symm.trans v2.symm, parse_utc w hr hB hc hm (by omega) hone hz hT' (fun X A1 h => ?_)⟩
        rw [k1] at h
        exact Clk.decUTC_ok X h (by omega) ok
      · refine .inr ⟨fun y m d h mi s hv e => ?_, 6, x4, by omega, by omega, by omega, parse_utc_no w hr hB hc hm (by omega) hone hz hT' (t0 := 0) (t1 := 0) (t2 := 0) (t3 := 0) (t4 := 0) (t5 := 0) (fun X A1 h => ?_)⟩
        · rw [← k2] at e
          rcases val_enc hv with ⟨a1, a2, a3, a4⟩ | ⟨a1, a2, a3, a4, a5⟩
          · rw [a2] at e
            rw [(enc_inj a3 k3 e).2.2.2] at a4
            exact ok a4
          · rw [a2] at e
            have := (enc_inj a3 k3 e).2.1
            omega
        · rw [k1] at h
          exact Clk.decUTC_no X h (by omega) (by omega) ok
    · by_cases hT4 : (x0 = 0 ∧ x2 = false) ∧ x1 = 24
      · have hT' := hT4
        obtain ⟨⟨rfl, rfl⟩, rfl⟩ := hT4
        by_cases ok : Clk.okG k
        · by_cases hy : 2049 < Clk.yr4 k
          · obtain ⟨v1, v2⟩ := val_ofG ok hy
            refine .inl ⟨_, _, _, _, _, _, v1, k2.symm.trans v2.symm, parse_gen w hr hB hc hm (by omega) hone hz hT' hy (fun X A1 h => ?_)⟩
            rw [k1] at h
            exact Clk.decGen_ok X h (by omega) ok
          · refine .inr ⟨fun y m d h mi s hv e => ?_, 6, x4, by omega, by omega, by omega, parse_gen_early w hr hB hc hm (by omega) hone hz hT' (t0 := Clk.yr4 k) (t1 := Clk.pr k 4) (t2 := Clk.pr k 6) (t3 := Clk.pr k 8) (t4 := Clk.pr k 10) (t5 := Clk.pr k 12) (by omega) (fun X A1 h => ?_)⟩
            · rw [← k2] at e
              rcases val_enc hv with ⟨a1, a2, a3, a4⟩ | ⟨a1, a2, a3, a4, a5⟩
              · rw [a2] at e
                have := (enc_inj a3 k3 e).2.1
                omega
              · rw [a2] at e
                rw [(enc_inj a3 k3 e).2.2.2] at a5
                omega
            · rw [k1] at h
              exact Clk.decGen_ok X h (by omega) ok
        · refine .inr ⟨fun y m d h mi s hv e => ?_, 6, x4, by omega, by omega, by omega, parse_gen_no w hr hB hc hm (by omega) hone hz hT' (t0 := 0) (t1 := 0) (t2 := 0) (t3 := 0) (t4 := 0) (t5 := 0) (by omega) (fun X A1 h => ?_)⟩
          · rw [← k2] at e
            rcases val_enc hv with ⟨a1, a2, a3, a4⟩ | ⟨a1, a2, a3, a4, a5⟩
            · rw [a2] at e
              have := (enc_inj a3 k3 e).2.1
              omega
            · rw [a2] at e
              rw [(enc_inj a3 k3 e).2.2.2] at a4
              exact ok a4
          · rw [k1] at h
            exact Clk.decGen_no X h (by omega) (by omega) ok
      · refine .inr ⟨fun y m d h mi s hv e => ?_, 3, x4, by omega, by omega, by omega, parse_tag w hr hB hc hm (by omega) hone hz hT hT4⟩
        rw [← k2] at e
        rcases val_enc hv with ⟨a1, a2, a3, a4⟩ | ⟨a1, a2, a3, a4, a5⟩
        · rw [a2] at e
          obtain ⟨i1, i2, i3, _⟩ := enc_inj a3 k3 e
          exact hT ⟨⟨i1.symm, i3.symm⟩, i2.symm⟩
        · rw [a2] at e
          obtain ⟨i1, i2, i3, _⟩ := enc_inj a3 k3 e
          exact hT4 ⟨⟨i1.symm, i3.symm⟩, i2.symm⟩
  · obtain ⟨d1, d2, d3, d4⟩ := one_err (by omega) hz
    have hone : oneV l = (⟨(oneV l).1.cls, (oneV l).1.num, (oneV l).1.cons, (oneV l).1.start, (oneV l).1.body, (oneV l).1.stop⟩, (oneV l).2.1, (oneV l).2.2) := rfl
    refine .inr ⟨fun y m d h mi s hv e => ?_, (oneV l).2.1, (oneV l).2.2, d2, d3, d4, parse_err w hr hB hc hm (by omega) hone hz⟩
    rw [e] at hz
    rcases val_enc hv with ⟨a1, a2, a3, a4⟩ | ⟨a1, a2, a3, a4, a5⟩
    · rw [a2, one_enc a3] at hz; exact hz rfl
    · rw [a2, one_enc a3] at hz; exact hz rfl
end Go.Proofs.Ytnpmgofkfdpbjaa.Val
