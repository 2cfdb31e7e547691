/- Joined texts: PlBas, BasA, BasB, BasC, BasD, PlSeq, PlRow. -/
import Derived.Deep.DeepFit
import Derived.Test.YtnpmgofkfdpbjaaKV
import Derived.Test.YtnpmgofkfdpbjaaKI
import Derived.Test.YtnpmgofkfdpbjaaKN
import Derived.Test.YtnpmgofkfdpbjaaKL
import Derived.Test.YtnpmgofkfdpbjaaKA
set_option linter.unusedSimpArgs false
set_option linter.unusedVariables false
/- Plain: counts and CRL numbers as contents octets and elements. No program in sight. -/
namespace Go.Proofs.Ytnpmgofkfdpbjaa.Bas
open Kit Tlv

/-- is a number a count? -/
def cntB (n : Int) : Bool := decide (0 ≤ n) && decide (n ≤ 2147483647)
theorem cntB_iff {n : Int} : cntB n = true ↔ 0 ≤ n ∧ n ≤ 2147483647 := by unfold cntB; simp
/-- the element of a number -/
def nmL (c t n : Int) : List UInt8 := encL c false t (Int4.intL n)
def cntC (n : Int) : Int := if cntB n = true then 0 else 8
def cntL (n : Int) : List UInt8 := if cntB n = true then nmL 0 2 n else []
/-- is it a CRL number? -/
def numB (l : List UInt8) : Bool := Int4.validI l && (decide (l.length ≤ 20) && decide (0 ≤ Int4.signI l))

def numC (l : List UInt8) : Int := if numB l = true then 0 else 8
def numL (l : List UInt8) : List UInt8 := if numB l = true then encL 0 false 2 l else []
/-- contents octets read as a count -/
def rdB (l : List UInt8) : Bool := Int4.intOk l && cntB (Int4.intV l)
theorem int_bd {n : Int} (h : cntB n = true) : -9223372036854775808 ≤ n ∧ n ≤ 9223372036854775807 := by have := cntB_iff.1 h; omega
theorem nm_code {c t n : Int} (hc : 0 ≤ c ∧ c ≤ 3) (ht : 0 ≤ t ∧ t ≤ 30) (hn : -9223372036854775808 ≤ n ∧ n ≤ 9223372036854775807) : encCode c t (Int4.intL n).length = 0 := by
  have h8 := (Int4.intL_ok hn.1 hn.2).2.2
  apply encCode_mk
  · unfold idCode; rw [if_neg]; unfold idBad; omega
  · exact lenCode_ok (by omega) (by omega)
theorem num_code {l : List UInt8} (h : numB l = true) : encCode 0 2 l.length = 0 ∧ l.length ≤ 20 := by
  unfold numB at h
  simp only [Bool.and_eq_true, decide_eq_true_eq] at h
  refine ⟨encCode_mk (by decide) (lenCode_ok (by omega) (by omega)), h.2.1⟩
theorem cnt_yes {n : Int} (h : cntB n = true) : cntC n = 0 ∧ cntL n = nmL 0 2 n := by unfold cntC cntL; simp [h]
theorem cnt_no {n : Int} (h : cntB n = false) : cntC n = 8 ∧ cntL n = [] := by unfold cntC cntL; simp [h]
theorem num_yes {l : List UInt8} (h : numB l = true) : numC l = 0 ∧ numL l = encL 0 false 2 l := by unfold numC numL; simp [h]
theorem num_no {l : List UInt8} (h : numB l = false) : numC l = 8 ∧ numL l = [] := by unfold numC numL; simp [h]
/-- what is read as a count is its contents octets -/
theorem rd_of {k : List UInt8} (h : rdB k = true) : cntB (Int4.intV k) = true ∧ Int4.intL (Int4.intV k) = k := by
  unfold rdB at h
  rw [Bool.and_eq_true] at h
  obtain ⟨h1, h2⟩ := h
  refine ⟨h2, ?_⟩
  have h3 : Int4.intV k = Int4.sv k := by unfold Int4.intV; rw [if_pos h1]
  unfold Int4.intOk at h1
  rw [Bool.and_eq_true] at h1
  exact (Int4.intL_of (int_bd h2).1 (int_bd h2).2 h1.1 h3.symm).symm
theorem rd_back {n : Int} (h : cntB n = true) : rdB (Int4.intL n) = true ∧ Int4.intV (Int4.intL n) = n := by
  obtain ⟨v1, v2, v3⟩ := Int4.intL_ok (int_bd h).1 (int_bd h).2
  have ho : Int4.intOk (Int4.intL n) = true := by unfold Int4.intOk; simp [v1, v3]
  have hv : Int4.intV (Int4.intL n) = n := by unfold Int4.intV; rw [if_pos ho, v2]
  refine ⟨?_, hv⟩
  unfold rdB
  rw [hv, h, ho]
  rfl
theorem intL_inj {n m : Int} (h : cntB n = true) (h' : cntB m = true) (e : Int4.intL n = Int4.intL m) : n = m := by
  have h1 := (rd_back h).2
  rw [e, (rd_back h').2] at h1
  exact h1.symm
theorem nm_inj {c t n c' t' m : Int} (hc : 0 ≤ c ∧ c ≤ 3) (ht : 0 ≤ t ∧ t ≤ 30) (hc' : 0 ≤ c' ∧ c' ≤ 3) (ht' : 0 ≤ t' ∧ t' ≤ 30) (h : cntB n = true) (h' : cntB m = true) (e : nmL c t n = nmL c' t' m) : c = c' ∧ t = t' ∧ n = m := by
  obtain ⟨e1, e2, _, e4⟩ := Val.enc_inj (nm_code hc' ht' (int_bd h')) (nm_code hc ht (int_bd h)) e
  exact ⟨e1.symm, e2.symm, (intL_inj h' h e4).symm⟩
theorem nm_len {c t n : Int} (hc : 0 ≤ c ∧ c ≤ 3) (ht : 0 ≤ t ∧ t ≤ 30) (h : cntB n = true) : (nmL c t n).length ≤ 30 := by
  have h8 := (Int4.intL_ok (int_bd h).1 (int_bd h).2).2.2
  have := len_bd ((Int4.intL n).length : Int)
  unfold nmL
  rw [enc_len (nm_code hc ht (int_bd h))]
  omega
theorem num_len (l : List UInt8) : (numL l).length ≤ 40 := by
  cases h : numB l with
  | false => rw [(num_no h).2]; simp
  | true =>
    have := len_bd (l.length : Int)
    rw [(num_yes h).2, enc_len (num_code h).1]
    have := (num_code h).2
    omega
theorem cnt_len (n : Int) : (cntL n).length ≤ 30 := by
  cases h : cntB n with
  | false => rw [(cnt_no h).2]; simp
  | true => rw [(cnt_yes h).2]; exact nm_len (by omega) (by omega) h
end Go.Proofs.Ytnpmgofkfdpbjaa.Bas
/- Walks: numbers of the package basic and of the reference: Marshal and Valid. -/
namespace Go.Proofs.Ytnpmgofkfdpbjaa.Bas
open Go.RowKit Kit Tlv

set_option maxHeartbeats 1000000 in
theorem count_any (n : Int) (w : World) : Calls Try.prog 104 #[.int .i64 n] w fun e w' => e = .returned (.bool (cntB n)) ∧ Below w.heap.size w w' := by
  have F := Lib.hid (show cntB n = (decide (0 ≤ n) && decide (n ≤ 2147483647)) from rfl)
  by_cases h0 : 0 ≤ n
  · by_cases h1 : n ≤ 2147483647
    · have R := Lib.hid (show cntB n = true from by rw [F.out]; simp [h0, h1])
      go_enter Try.func104, Try.ntmps104
      go_wp2
      go_ret
      exact ⟨ret_bool R.out.symm, (by repeat' (first | (with_reducible exact Below.refl _ _) | (with_reducible assumption) | (with_reducible refine below_drewN ?_ _) | (with_reducible refine Below.drew ?_) | (with_reducible refine Below.alloc ?_ ?_ _) | (with_reducible refine Below.setCell ?_ ?_ _) | go_size))⟩
    · have R := Lib.hid (show cntB n = false from by rw [F.out]; simp; omega)
      have hd : decide (n ≤ 2147483647) = false := by simpa using h1
      go_enter Try.func104, Try.ntmps104
      go_wp2
      go_ret
      exact ⟨ret_bool R.out.symm, (by repeat' (first | (with_reducible exact Below.refl _ _) | (with_reducible assumption) | (with_reducible refine below_drewN ?_ _) | (with_reducible refine Below.drew ?_) | (with_reducible refine Below.alloc ?_ ?_ _) | (with_reducible refine Below.setCell ?_ ?_ _) | go_size))⟩
  · have R := Lib.hid (show cntB n = false from by rw [F.out]; simp; omega)
    have hd : decide (0 ≤ n) = false := by simpa using h0
    go_enter Try.func104, Try.ntmps104
    go_wp2
    go_ret
    exact ⟨ret_bool R.out.symm, (by repeat' (first | (with_reducible exact Below.refl _ _) | (with_reducible assumption) | (with_reducible refine below_drewN ?_ _) | (with_reducible refine Below.drew ?_) | (with_reducible refine Below.alloc ?_ ?_ _) | (with_reducible refine Below.setCell ?_ ?_ _) | go_size))⟩
set_option maxHeartbeats 1000000 in
theorem refcount_any (n : Int) (w : World) : Calls Try.prog 105 #[.int .i64 n] w fun e w' => e = .returned (.bool (cntB n)) ∧ Below w.heap.size w w' := by
  have F := Lib.hid (show cntB n = (decide (0 ≤ n) && decide (n ≤ 2147483647)) from rfl)
  by_cases h0 : 0 ≤ n
  · by_cases h1 : n ≤ 2147483647
    · have R := Lib.hid (show cntB n = true from by rw [F.out]; simp [h0, h1])
      go_enter Try.func105, Try.ntmps105
      go_wp2
      go_ret
      exact ⟨ret_bool R.out.symm, (by repeat' (first | (with_reducible exact Below.refl _ _) | (with_reducible assumption) | (with_reducible refine below_drewN ?_ _) | (with_reducible refine Below.drew ?_) | (with_reducible refine Below.alloc ?_ ?_ _) | (with_reducible refine Below.setCell ?_ ?_ _) | go_size))⟩
    · have R := Lib.hid (show cntB n = false from by rw [F.out]; simp; omega)
      have hd : decide (n ≤ 2147483647) = false := by simpa using h1
      go_enter Try.func105, Try.ntmps105
      go_wp2
      go_ret
      exact ⟨ret_bool R.out.symm, (by repeat' (first | (with_reducible exact Below.refl _ _) | (with_reducible assumption) | (with_reducible refine below_drewN ?_ _) | (with_reducible refine Below.drew ?_) | (with_reducible refine Below.alloc ?_ ?_ _) | (with_reducible refine Below.setCell ?_ ?_ _) | go_size))⟩
  · have R := Lib.hid (show cntB n = false from by rw [F.out]; simp; omega)
    have hd : decide (0 ≤ n) = false := by simpa using h0
    go_enter Try.func105, Try.ntmps105
    go_wp2
    go_ret
    exact ⟨ret_bool R.out.symm, (by repeat' (first | (with_reducible exact Below.refl _ _) | (with_reducible assumption) | (with_reducible refine below_drewN ?_ _) | (with_reducible refine Below.drew ?_) | (with_reducible refine Below.alloc ?_ ?_ _) | (with_reducible refine Below.setCell ?_ ?_ _) | go_size))⟩

set_option maxHeartbeats 2000000 in
theorem number_any (c t n : Int) (w : World) (hc : 0 ≤ c ∧ c ≤ 3) (ht : 0 ≤ t ∧ t ≤ 30) (hn : -9223372036854775808 ≤ n ∧ n ≤ 9223372036854775807) :
    Calls Try.prog 100 #[.int .i64 c, .int .i64 t, .int .i64 n] w (Ent.MarP w (nmL c t n) 0) := by
  have FI := Lib.hid (fun w => Int4.fromint_any n w hn.1 hn.2)
  have F2 := Lib.hid (nm_code hc ht hn)
  have F3 := Lib.hid (show nmL c t n = encL c false t (Int4.intL n) from rfl)
  have F8 := Lib.hid (Int4.intL_ok hn.1 hn.2).2.2
  rw [F3.out]
  generalize Int4.intL n = u at *
  clear hc ht hn
  go_enter Try.func100, Try.ntmps100
  go_wp2_with fail
  go_must (go_fit (FI.out _))
  rintro e w2 ⟨A2, c2, rfl, r2, _, _, hb2⟩
  have z := hb2.size
  have W := Lib.hid (fun cc => wrap_any c t false _ (cat_one (cc := cc) (t := 29) w2 w2.heap.size (c := c2) r2 (Nat.le_refl _) rfl (by have := F8.out; omega)) (by have := F8.out; omega))
  clear r2 FI
  go_wp2_with fail
  go_must (go_fit (W.out _))
  rintro e w3 ⟨A3, c3, rfl, o3, hb3⟩
  go_wp2_with fail
  go_ret2
  exact ⟨A3, c3, by rw [F2.out]; rfl, o3.mono (by simp; omega), (hb2.alloc z _).trans (hb3.mono (by simp; omega))⟩

set_option maxHeartbeats 2000000 in
theorem refnumber_any (x t n : Int) (w : World) (hx : idByte 0 false t = x ∨ idByte 2 false t = x) (ht : 0 ≤ t ∧ t ≤ 30) (hn : -9223372036854775808 ≤ n ∧ n ≤ 9223372036854775807) :
    Calls Try.prog 102 #[.int .u8 x, .int .i64 n] w (Int4.OwnP w (if idByte 0 false t = x then nmL 0 t n else nmL 2 t n)) := by
  have FI := Lib.hid (fun w => Int4.reffromint_any n w hn.1 hn.2)
  have F8 := Lib.hid (Int4.intL_ok hn.1 hn.2).2.2
  have hb : 0 ≤ x ∧ x ≤ 255 := by rcases hx with h | h <;> rw [← h] <;> exact id_bd _ _ _
  have F3 := Lib.hid (show putL x (Int4.intL n) = (if idByte 0 false t = x then nmL 0 t n else nmL 2 t n) from by
    by_cases h : idByte 0 false t = x
    · rw [if_pos h, ← h]; exact put_enc (nm_code (by omega) ht hn)
    · rw [if_neg h, ← hx.resolve_left h]; exact put_enc (nm_code (by omega) ht hn))
  rw [← F3.out]
  generalize Int4.intL n = u at *
  obtain ⟨b0, b1⟩ := hb
  clear hx ht hn
  go_enter Try.func102, Try.ntmps102
  go_wp2_with fail
  go_must (go_fit (FI.out _))
  rintro e w2 ⟨A2, c2, rfl, o2, hb2⟩
  have PU := Lib.hid (put_any (c := c2) x w2 o2.rd (Nat.le_refl _) b0 b1 (by have := F8.out; omega))
  clear o2 FI
  go_wp2_with fail
  go_must (go_fit PU.out)
  rintro e w3 ⟨A3, c3, rfl, o3, hb3⟩
  go_wp2
  go_ret
  exact ⟨A3, c3, rfl, o3.mono hb2.size, two_belowK hb2 hb3 hb2.size⟩

set_option maxHeartbeats 2000000 in
theorem marcount_any (n : Int) (w : World) : Calls Try.prog 68 #[.int .i64 n] w (Ent.MarP w (cntL n) (cntC n)) := by
  have V := Lib.hid (fun w => count_any n w)
  cases hv : cntB n with
  | false =>
    obtain ⟨f1, f2⟩ := cnt_no hv
    rw [f1, f2]
    rw [hv] at V
    clear hv f1 f2
    go_enter Try.func68, Try.ntmps68
    go_wp2_with fail
    go_must (go_fit (V.out _))
    rintro e w1 ⟨rfl, hb1⟩
    go_wp2
    go_ret2
    exact ⟨none, 0, rfl, Own.none_ _ _, hb1⟩
  | true =>
    obtain ⟨f1, f2⟩ := cnt_yes hv
    rw [f1, f2]
    have N := Lib.hid (fun w => number_any 0 2 n w (by omega) (by omega) (int_bd hv))
    rw [hv] at V
    clear hv f1 f2
    go_enter Try.func68, Try.ntmps68
    go_wp2_with fail
    go_must (go_fit (V.out _))
    rintro e w1 ⟨rfl, hb1⟩
    go_wp2_with fail
    go_must (go_fit (N.out _))
    rintro e w2 ⟨A2, c2, rfl, o2, hb2⟩
    go_wp2
    go_ret2
    exact ⟨A2, c2, rfl, o2.mono hb1.size, two_belowK hb1 hb2 hb1.size⟩
set_option maxHeartbeats 2000000 in
theorem refmarcount_any (n : Int) (w : World) : Calls Try.prog 69 #[.int .i64 n] w (Ent.MarP w (cntL n) (cntC n)) := by
  have V := Lib.hid (fun w => refcount_any n w)
  cases hv : cntB n with
  | false =>
    obtain ⟨f1, f2⟩ := cnt_no hv
    rw [f1, f2]
    rw [hv] at V
    clear hv f1 f2
    go_enter Try.func69, Try.ntmps69
    go_wp2_with fail
    go_must (go_fit (V.out _))
    rintro e w1 ⟨rfl, hb1⟩
    go_wp2
    go_ret2
    exact ⟨none, 0, rfl, Own.none_ _ _, hb1⟩
  | true =>
    obtain ⟨f1, f2⟩ := cnt_yes hv
    rw [f1, f2]
    have N := Lib.hid (fun w => refnumber_any 2 2 n w (.inl (by decide)) (by omega) (int_bd hv))
    rw [if_pos (by decide)] at N
    rw [hv] at V
    clear hv f1 f2
    go_enter Try.func69, Try.ntmps69
    go_wp2_with fail
    go_must (go_fit (V.out _))
    rintro e w1 ⟨rfl, hb1⟩
    go_wp2_with fail
    go_must (go_fit (N.out _))
    rintro e w2 ⟨A2, c2, rfl, o2, hb2⟩
    go_wp2
    go_ret2
    exact ⟨A2, c2, rfl, o2.mono hb1.size, two_belowK hb1 hb2 hb1.size⟩

set_option maxHeartbeats 2000000 in
theorem validnum_any {A : Option Addr} {n c B : Nat} {l : List UInt8} (w : World) (hr : Rd w B A n l) (hB : B ≤ w.heap.size) :
    Calls Try.prog 72 #[.slice A n c] w fun e w' => e = .returned (.bool (numB l)) ∧ w = w' := by
  have hl := hr.len
  subst hl
  have V := Lib.hid (Int4.valid_any (c := c) w hr hB)
  have S := Lib.hid (Int4.sign_any (c := c) w hr hB)
  have F := Lib.hid (show numB l = (Int4.validI l && (decide (l.length ≤ 20) && decide (0 ≤ Int4.signI l))) from rfl)
  generalize Int4.signI l = s at *
  clear hr
  cases hv : Int4.validI l with
  | false =>
    have R := Lib.hid (show numB l = false from by rw [F.out, hv]; rfl)
    rw [hv] at V
    clear hv
    go_enter Try.func72, Try.ntmps72
    go_wp2_with fail
    go_must (go_fit V.out)
    rintro e w1 ⟨rfl, rfl⟩
    go_wp2
    go_ret
    exact ⟨ret_bool R.out.symm, rfl⟩
  | true =>
    rw [hv] at V F
    clear hv
    by_cases h2 : l.length ≤ 20
    · by_cases h3 : 0 ≤ s
      · have R := Lib.hid (show numB l = true from by rw [F.out]; simp [h2, h3])
        have h2' : (l.length : Int) ≤ 20 := by omega
        go_enter Try.func72, Try.ntmps72
        go_wp2_with fail
        go_must (go_fit V.out)
        rintro e w1 ⟨rfl, rfl⟩
        go_wp2_with fail
        go_must (go_fit S.out)
        rintro e w1 ⟨rfl, rfl⟩
        go_wp2
        go_ret
        exact ⟨ret_bool R.out.symm, rfl⟩
      · have R := Lib.hid (show numB l = false from by rw [F.out]; simp [h2, h3])
        have h2' : (l.length : Int) ≤ 20 := by omega
        have hd : decide (0 ≤ s) = false := by simpa using h3
        go_enter Try.func72, Try.ntmps72
        go_wp2_with fail
        go_must (go_fit V.out)
        rintro e w1 ⟨rfl, rfl⟩
        go_wp2_with fail
        go_must (go_fit S.out)
        rintro e w1 ⟨rfl, rfl⟩
        go_wp2
        go_ret
        exact ⟨ret_bool R.out.symm, rfl⟩
    · have R := Lib.hid (show numB l = false from by rw [F.out]; simp [h2])
      have h2' : ¬ (l.length : Int) ≤ 20 := by omega
      have hd : decide ((l.length : Int) ≤ 20) = false := by simpa using h2'
      have hd2 : decide (l.length ≤ 20) = false := by simpa using h2
      go_enter Try.func72, Try.ntmps72
      go_wp2_with fail
      go_must (go_fit V.out)
      rintro e w1 ⟨rfl, rfl⟩
      go_wp2
      go_ret
      exact ⟨ret_bool R.out.symm, rfl⟩
set_option maxHeartbeats 2000000 in
theorem refvalidnum_any {A : Option Addr} {n c B : Nat} {l : List UInt8} (w : World) (hr : Rd w B A n l) (hB : B ≤ w.heap.size) (hm : n ≤ maxLen) :
    Calls Try.prog 73 #[.slice A n c] w fun e w' => e = .returned (.bool (numB l)) ∧ w = w' := by
  have hl := hr.len
  subst hl
  have V := Lib.hid (Int4.refvalid_any (c := c) w hr hB)
  have S := Lib.hid (Int4.refsign_any (c := c) w hr hB hm)
  have F := Lib.hid (show numB l = (Int4.validI l && (decide (l.length ≤ 20) && decide (0 ≤ Int4.signI l))) from rfl)
  generalize Int4.signI l = s at *
  clear hr
  cases hv : Int4.validI l with
  | false =>
    have R := Lib.hid (show numB l = false from by rw [F.out, hv]; rfl)
    rw [hv] at V
    clear hv
    go_enter Try.func73, Try.ntmps73
    go_wp2_with fail
    go_must (go_fit V.out)
    rintro e w1 ⟨rfl, rfl⟩
    go_wp2
    go_ret
    exact ⟨ret_bool R.out.symm, rfl⟩
  | true =>
    rw [hv] at V F
    clear hv
    by_cases h3 : 0 ≤ s
    · by_cases h2 : l.length ≤ 20
      · have R := Lib.hid (show numB l = true from by rw [F.out]; simp [h2, h3])
        have h2' : (l.length : Int) ≤ 20 := by omega
        go_enter Try.func73, Try.ntmps73
        go_wp2_with fail
        go_must (go_fit V.out)
        rintro e w1 ⟨rfl, rfl⟩
        go_wp2_with fail
        go_must (go_fit S.out)
        rintro e w1 ⟨rfl, rfl⟩
        go_wp2
        go_ret
        exact ⟨ret_bool R.out.symm, rfl⟩
      · have R := Lib.hid (show numB l = false from by rw [F.out]; simp [h2])
        have h2' : ¬ (l.length : Int) ≤ 20 := by omega
        have hd : decide ((l.length : Int) ≤ 20) = false := by simpa using h2'
        have hd2 : decide (l.length ≤ 20) = false := by simpa using h2
        go_enter Try.func73, Try.ntmps73
        go_wp2_with fail
        go_must (go_fit V.out)
        rintro e w1 ⟨rfl, rfl⟩
        go_wp2_with fail
        go_must (go_fit S.out)
        rintro e w1 ⟨rfl, rfl⟩
        go_wp2
        go_ret
        exact ⟨ret_bool R.out.symm, rfl⟩
    · have R := Lib.hid (show numB l = false from by rw [F.out]; simp [h3])
      have hd : decide (0 ≤ s) = false := by simpa using h3
      go_enter Try.func73, Try.ntmps73
      go_wp2_with fail
      go_must (go_fit V.out)
      rintro e w1 ⟨rfl, rfl⟩
      go_wp2_with fail
      go_must (go_fit S.out)
      rintro e w1 ⟨rfl, rfl⟩
      go_wp2
      go_ret
      exact ⟨ret_bool R.out.symm, rfl⟩

set_option maxHeartbeats 2000000 in
theorem marnum_any {A : Option Addr} {n c B : Nat} {l : List UInt8} (w : World) (hr : Rd w B A n l) (hB : B ≤ w.heap.size) : Calls Try.prog 70 #[.slice A n c] w (Ent.MarP w (numL l) (numC l)) := by
  have V := Lib.hid (validnum_any (c := c) w hr hB)
  have hl := hr.len
  cases hv : numB l with
  | false =>
    obtain ⟨f1, f2⟩ := num_no hv
    rw [f1, f2]
    rw [hv] at V
    clear hv f1 f2
    go_enter Try.func70, Try.ntmps70
    go_wp2_with fail
    go_must (go_fit V.out)
    rintro e w1 ⟨rfl, rfl⟩
    go_wp2
    go_ret2
    exact ⟨none, 0, rfl, Own.none_ _ _, Below.refl _ _⟩
  | true =>
    obtain ⟨f1, f2⟩ := num_yes hv
    have hcd := num_code hv
    have F2 := Lib.hid (show encCode 0 2 n = 0 from by rw [← hl]; exact hcd.1)
    rw [f1, f2]
    have W := Lib.hid (fun cc => wrap_any 0 2 false _ (cat_one (cc := cc) (t := 29) w w.heap.size (c := c) hr hB rfl (by omega)) (by omega))
    rw [hv] at V
    clear hv f1 f2 hcd hr
    go_enter Try.func70, Try.ntmps70
    go_wp2_with fail
    go_must (go_fit V.out)
    rintro e w1 ⟨rfl, rfl⟩
    go_wp2_with fail
    go_must (go_fit (W.out _))
    rintro e w2 ⟨A2, c2, rfl, o2, hb2⟩
    go_wp2
    go_ret2
    exact ⟨A2, c2, by rw [F2.out]; rfl, o2.mono (by simp), ((Below.refl _ _).alloc (Nat.le_refl _) _).trans (hb2.mono (by simp))⟩
set_option maxHeartbeats 2000000 in
theorem refmarnum_any {A : Option Addr} {n c B : Nat} {l : List UInt8} (w : World) (hr : Rd w B A n l) (hB : B ≤ w.heap.size) (hm : n ≤ maxLen) : Calls Try.prog 71 #[.slice A n c] w (Ent.MarP w (numL l) (numC l)) := by
  have V := Lib.hid (refvalidnum_any (c := c) w hr hB hm)
  have hl := hr.len
  cases hv : numB l with
  | false =>
    obtain ⟨f1, f2⟩ := num_no hv
    rw [f1, f2]
    rw [hv] at V
    clear hv f1 f2
    go_enter Try.func71, Try.ntmps71
    go_wp2_with fail
    go_must (go_fit V.out)
    rintro e w1 ⟨rfl, rfl⟩
    go_wp2
    go_ret2
    exact ⟨none, 0, rfl, Own.none_ _ _, Below.refl _ _⟩
  | true =>
    obtain ⟨f1, f2⟩ := num_yes hv
    have hcd := num_code hv
    have F2 := Lib.hid ((put_enc (b := false) hcd.1).symm.trans (by rw [show idByte 0 false 2 = 2 from by decide]))
    rw [f1, f2, F2.out]
    have PU := Lib.hid (put_any (c := c) 2 w hr hB (by omega) (by omega) (by omega))
    rw [hv] at V
    clear hv f1 f2 hcd hr F2
    go_enter Try.func71, Try.ntmps71
    go_wp2_with fail
    go_must (go_fit V.out)
    rintro e w1 ⟨rfl, rfl⟩
    go_wp2_with fail
    go_must (go_fit PU.out)
    rintro e w2 ⟨A2, c2, rfl, o2, hb2⟩
    go_wp2
    go_ret2
    exact ⟨A2, c2, rfl, o2, hb2⟩
end Go.Proofs.Ytnpmgofkfdpbjaa.Bas
/- Walks: toCount, value, single, ParseCount and ParseNumber of the package basic. -/
namespace Go.Proofs.Ytnpmgofkfdpbjaa.Kit
open Go.RowKit
theorem freeP {w : World} {b : Nat} {cs : Array Value} {t : TypeId} (h : w.heap[b]? = some (.cells cs t (0, 0))) : w.frozen? ⟨b, 0, none⟩ = false ∧ w.frozen? ⟨b, 1, none⟩ = false :=
  ⟨frozen_of_row w b 0 _ _ h, frozen_of_row w b 1 _ _ h⟩
/-- a world of which nothing but this is kept -/
theorem wp_only {P : Program} {cd : Code} {Q : Exit → Act → World → Prop} {a : Act} {W : World} (R : World → Prop) (h : R W) (k : ∀ w2, R w2 → cd.wp P Q a w2) : cd.wp P Q a W := k W h
end Go.Proofs.Ytnpmgofkfdpbjaa.Kit
namespace Go.Proofs.Ytnpmgofkfdpbjaa.Bas
open Go.RowKit Kit Tlv

set_option maxHeartbeats 2000000 in
theorem tocount_any {A : Option Addr} {n c B : Nat} {l : List UInt8} (w : World) (hr : Rd w B A n l) (hB : B ≤ w.heap.size) (hc : n ≤ c) :
    Calls Try.prog 111 #[.slice A n c] w fun e w' => e = .returned (.tuple #[.int .i64 (Int4.intV l), .bool (rdB l)]) ∧ w = w' := by
  have I := Lib.hid (Int4.int_any (c := c) w hr hB hc)
  have F := Lib.hid (show rdB l = (Int4.intOk l && (decide (0 ≤ Int4.intV l) && decide (Int4.intV l ≤ 2147483647))) from rfl)
  have BD : -9223372036854775808 ≤ Int4.intV l ∧ Int4.intV l ≤ 9223372036854775807 := by
    unfold Int4.intV
    split
    · rename_i h
      unfold Int4.intOk at h
      rw [Bool.and_eq_true] at h
      exact Int4.sv_bd8 (Int4.valid_pos h.1) (by simpa using h.2)
    · omega
  obtain ⟨bd1, bd2⟩ := BD
  generalize Int4.intV l = v at *
  clear hr
  cases ho : Int4.intOk l with
  | false =>
    have R := Lib.hid (show rdB l = false from by rw [F.out, ho]; rfl)
    rw [ho] at I
    clear ho
    go_enter Try.func111, Try.ntmps111
    go_wp2_with fail
    go_must (go_fit I.out)
    rintro e w1 ⟨rfl, rfl⟩
    go_wp2
    go_ret2
    exact ⟨ret2 rfl (vbool R.out.symm), rfl⟩
  | true =>
    rw [ho] at I F
    clear ho
    by_cases h0 : 0 ≤ v
    · by_cases h1 : v ≤ 2147483647
      · have R := Lib.hid (show rdB l = true from by rw [F.out]; simp [h0, h1])
        go_enter Try.func111, Try.ntmps111
        go_wp2_with fail
        go_must (go_fit I.out)
        rintro e w1 ⟨rfl, rfl⟩
        go_wp2
        go_ret2
        exact ⟨ret2 rfl (vbool R.out.symm), rfl⟩
      · have R := Lib.hid (show rdB l = false from by rw [F.out]; simp [h1])
        have hd : decide (v ≤ 2147483647) = false := by simpa using h1
        go_enter Try.func111, Try.ntmps111
        go_wp2_with fail
        go_must (go_fit I.out)
        rintro e w1 ⟨rfl, rfl⟩
        go_wp2
        go_ret2
        exact ⟨ret2 rfl (vbool R.out.symm), rfl⟩
    · have R := Lib.hid (show rdB l = false from by rw [F.out]; simp [h0])
      have hd : decide (0 ≤ v) = false := by simpa using h0
      go_enter Try.func111, Try.ntmps111
      go_wp2_with fail
      go_must (go_fit I.out)
      rintro e w1 ⟨rfl, rfl⟩
      go_wp2
      go_ret2
      exact ⟨ret2 rfl (vbool R.out.symm), rfl⟩

set_option maxHeartbeats 2000000 in
theorem tonum_any {A : Option Addr} {n c B : Nat} {l : List UInt8} (w : World) (hr : Rd w B A n l) (hB : B ≤ w.heap.size) (hn : n ≤ 1000000) :
    Calls Try.prog 128 #[.slice A n c] w fun e w' => ∃ A' c', e = .returned (.tuple #[.slice A' n c', .bool (numB l)]) ∧ Own w' w.heap.size A' n c' l ∧ Below w.heap.size w w' := by
  have C := Lib.hid (Cur.clone_any A n c l w hr (by omega) hB)
  have V := Lib.hid (fun (X : World) (h : Below w.heap.size w X) => validnum_any (c := c) X (hr.below (h.mono hB)) (Nat.le_trans hB h.size))
  clear hr
  go_enter Try.func128, Try.ntmps128
  go_wp2_with fail
  go_must (go_fit C.out)
  rintro e w1 ⟨A1, c1, rfl, o1, hb1⟩
  have V1 := Lib.hid (V.out w1 hb1)
  have O1 := Lib.hid o1
  clear o1 V
  go_wp2_with fail
  go_must (go_fit V1.out)
  rintro e w2 ⟨rfl, rfl⟩
  go_wp2
  go_ret2
  exact ⟨A1, c1, rfl, O1.out, hb1⟩

/-- the part of the bytes that an element's contents are -/
def conE (l : List UInt8) (x : El) : List UInt8 := (l.drop x.body.toNat).take (x.stop.toNat - x.body.toNat)

set_option maxRecDepth 100000 in
set_option maxHeartbeats 2000000 in
theorem valI_no {A : Option Addr} {n c : Nat} {x0 x1 x3 x4 x5 : Int} {x2 : Bool} (cl tg : Int) (D : Value) (w : World) (hT : ¬ ((x0 = cl ∧ x2 = false) ∧ x1 = tg)) :
    Calls Try.prog 110 #[.slice A n c, .agg #[.int .i64 x0, .int .i64 x1, .bool x2, .int .i64 x3, .int .i64 x4, .int .i64 x5], .int .i64 cl, .int .i64 tg, D] w fun e w' => e = .returned (.tuple #[.int .i64 0, .bool false]) ∧ Below w.heap.size w w' := by
  have IS := Lib.hid (fun (X : World) => is_any x0 x1 x3 x4 x5 x2 cl false tg X)
  have IB := Lib.hid (isB_not (x3 := x3) (x4 := x4) (x5 := x5) hT)
  rw [IB.out] at IS
  clear hT IB
  go_enter Try.func110, Try.ntmps110
  go_wp2_with fail
  go_must (go_fit (IS.out _))
  rintro e w1 ⟨rfl, hb1⟩
  go_wp2
  go_ret2
  exact ⟨rfl, bel1 hb1⟩

set_option maxRecDepth 100000 in
set_option maxHeartbeats 2000000 in
theorem valI_at {A : Option Addr} {n c B : Nat} {l : List UInt8} {x0 x1 x3 : Int} {x2 : Bool} (m4 m5 : Nat) (cl tg : Int) (w : World) (hr : Rd w B A n l) (hB : B ≤ w.heap.size) (hc : n ≤ c) (hn : n ≤ 1000000) (h45 : m4 ≤ m5) (h5 : m5 ≤ n) (hT : (x0 = cl ∧ x2 = false) ∧ x1 = tg) :
    Calls Try.prog 110 #[.slice A n c, .agg #[.int .i64 x0, .int .i64 x1, .bool x2, .int .i64 x3, .int .i64 (m4 : Int), .int .i64 (m5 : Int)], .int .i64 cl, .int .i64 tg, .func (.func 111) #[] #[]] w fun e w' => e = .returned (.tuple #[.int .i64 (if rdB ((l.drop m4).take (m5 - m4)) = true then Int4.intV ((l.drop m4).take (m5 - m4)) else 0), .bool (rdB ((l.drop m4).take (m5 - m4)))]) ∧ Below w.heap.size w w' := by
  have IS := Lib.hid (fun (X : World) => is_any x0 x1 x3 (m4 : Int) (m5 : Int) x2 cl false tg X)
  have IB := Lib.hid (isB_iff (x3 := x3) (x4 := (m4 : Int)) (x5 := (m5 : Int)) hT)
  rw [IB.out] at IS
  have HR := Lib.hid hr
  have hz1 : (m4 : Int) ≤ (m5 : Int) := by omega
  have hz2 : (m5 : Int) ≤ (c : Int) := by omega
  clear hT IB hr
  obtain ⟨k, hk⟩ : ∃ k, (l.drop m4).take (m5 - m4) = k := ⟨_, rfl⟩
  have HK := Lib.hid hk
  rw [hk]
  obtain ⟨bq, hbq⟩ : ∃ bq, rdB k = bq := ⟨_, rfl⟩
  have HBQ := Lib.hid hbq
  rw [hbq]
  clear hk hbq
  go_enter Try.func110, Try.ntmps110
  go_upto_region 4 with (first | (go_at_call 89; go_must (go_fit (IS.out _)); rintro e w1 ⟨rfl, hb1⟩))
  have tb := blk1 hb1
  have BE := Lib.hid (bel1 hb1)
  have hrd := ((HR.out.below (BE.out.mono hB)).more (Nat.le_trans hB BE.out.size)).cut (k := m4) (m := m5) (cap := c) h45 h5 (by omega)
  simp only [Nat.mul_one] at hrd
  clear hb1 HR IS
  have HRD := Lib.hid hrd
  clear hrd
  obtain ⟨u0, u1, u2, u3, u4, u5⟩ := cells6 tb
  clear tb
  obtain ⟨A1, hA⟩ : ∃ A1, (if c = m4 then A else Option.map (fun x => x.add m4) A) = A1 := ⟨_, rfl⟩
  rw [hA, HK.out] at HRD
  have DEC := Lib.hid (tocount_any (c := c - m4) w1 HRD.out (Nat.le_refl _) (by omega))
  rw [HBQ.out] at DEC
  go_wp2_with fail
  go_must (go_fit DEC.out)
  rintro e w2 ⟨rfl, rfl⟩
  clear u0 u1 u2 u3 u4 u5 DEC hA
  cases bq with
  | false =>
    go_wp2
    go_ret2
    exact ⟨rfl, BE.out⟩
  | true =>
    go_wp2
    go_ret2
    exact ⟨rfl, BE.out⟩

set_option maxRecDepth 100000 in
set_option maxHeartbeats 2000000 in
theorem valN_no {A : Option Addr} {n c : Nat} {x0 x1 x3 x4 x5 : Int} {x2 : Bool} (cl tg : Int) (D : Value) (w : World) (hT : ¬ ((x0 = cl ∧ x2 = false) ∧ x1 = tg)) :
    Calls Try.prog 153 #[.slice A n c, .agg #[.int .i64 x0, .int .i64 x1, .bool x2, .int .i64 x3, .int .i64 x4, .int .i64 x5], .int .i64 cl, .int .i64 tg, D] w fun e w' => e = .returned (.tuple #[.slice none 0 0, .bool false]) ∧ Below w.heap.size w w' := by
  have IS := Lib.hid (fun (X : World) => is_any x0 x1 x3 x4 x5 x2 cl false tg X)
  have IB := Lib.hid (isB_not (x3 := x3) (x4 := x4) (x5 := x5) hT)
  rw [IB.out] at IS
  clear hT IB
  go_enter Try.func153, Try.ntmps153
  go_wp2_with fail
  go_must (go_fit (IS.out _))
  rintro e w1 ⟨rfl, hb1⟩
  go_wp2
  go_ret2
  exact ⟨rfl, bel1 hb1⟩

set_option maxRecDepth 100000 in
set_option maxHeartbeats 2000000 in
theorem valN_at {A : Option Addr} {n c B : Nat} {l : List UInt8} {x0 x1 x3 : Int} {x2 : Bool} (m4 m5 : Nat) (cl tg : Int) (w : World) (hr : Rd w B A n l) (hB : B ≤ w.heap.size) (hc : n ≤ c) (hn : n ≤ 1000000) (h45 : m4 ≤ m5) (h5 : m5 ≤ n) (hT : (x0 = cl ∧ x2 = false) ∧ x1 = tg) :
    Calls Try.prog 153 #[.slice A n c, .agg #[.int .i64 x0, .int .i64 x1, .bool x2, .int .i64 x3, .int .i64 (m4 : Int), .int .i64 (m5 : Int)], .int .i64 cl, .int .i64 tg, .func (.func 128) #[] #[]] w fun e w' => ∃ A' c', e = .returned (.tuple #[.slice A' (if numB ((l.drop m4).take (m5 - m4)) = true then m5 - m4 else 0) c', .bool (numB ((l.drop m4).take (m5 - m4)))]) ∧ Own w' w.heap.size A' (if numB ((l.drop m4).take (m5 - m4)) = true then m5 - m4 else 0) c' (if numB ((l.drop m4).take (m5 - m4)) = true then (l.drop m4).take (m5 - m4) else []) ∧ Below w.heap.size w w' := by
  have IS := Lib.hid (fun (X : World) => is_any x0 x1 x3 (m4 : Int) (m5 : Int) x2 cl false tg X)
  have IB := Lib.hid (isB_iff (x3 := x3) (x4 := (m4 : Int)) (x5 := (m5 : Int)) hT)
  rw [IB.out] at IS
  have HR := Lib.hid hr
  have hz1 : (m4 : Int) ≤ (m5 : Int) := by omega
  have hz2 : (m5 : Int) ≤ (c : Int) := by omega
  clear hT IB hr
  obtain ⟨k, hk⟩ : ∃ k, (l.drop m4).take (m5 - m4) = k := ⟨_, rfl⟩
  have HK := Lib.hid hk
  rw [hk]
  obtain ⟨bq, hbq⟩ : ∃ bq, numB k = bq := ⟨_, rfl⟩
  have HBQ := Lib.hid hbq
  rw [hbq]
  clear hk hbq
  go_enter Try.func153, Try.ntmps153
  go_upto_region 4 with (first | (go_at_call 89; go_must (go_fit (IS.out _)); rintro e w1 ⟨rfl, hb1⟩))
  have tb := blk1 hb1
  have BE := Lib.hid (bel1 hb1)
  have hrd := ((HR.out.below (BE.out.mono hB)).more (Nat.le_trans hB BE.out.size)).cut (k := m4) (m := m5) (cap := c) h45 h5 (by omega)
  simp only [Nat.mul_one] at hrd
  clear hb1 HR IS
  have HRD := Lib.hid hrd
  clear hrd
  obtain ⟨u0, u1, u2, u3, u4, u5⟩ := cells6 tb
  clear tb
  obtain ⟨A1, hA⟩ : ∃ A1, (if c = m4 then A else Option.map (fun x => x.add m4) A) = A1 := ⟨_, rfl⟩
  rw [hA, HK.out] at HRD
  have DEC := Lib.hid (tonum_any (c := c - m4) w1 HRD.out (Nat.le_refl _) (by omega))
  rw [HBQ.out] at DEC
  go_wp2_with fail
  go_must (go_fit DEC.out)
  rintro e w2 ⟨A2, c2, rfl, o2, hb2⟩
  have O2 := Lib.hid o2
  have B2 := Lib.hid (two_belowK BE.out hb2 BE.out.size)
  clear u0 u1 u2 u3 u4 u5 DEC hA o2 hb2
  cases bq with
  | false =>
    go_wp2
    go_ret2
    exact ⟨none, 0, rfl, Own.none_ _ _, B2.out⟩
  | true =>
    go_wp2
    go_ret2
    exact ⟨A2, c2, rfl, O2.out.mono BE.out.size, B2.out⟩
end Go.Proofs.Ytnpmgofkfdpbjaa.Bas
/- Walks: single, ParseCount and ParseNumber of the package basic. -/
namespace Go.Proofs.Ytnpmgofkfdpbjaa.Bas
open Go.RowKit Kit Tlv

/-- the blocks of a running single: the error that it returns, the element, its error -/
def SB (w : World) (b4 : Nat) (es xs rs : Array Value) (X : World) : Prop :=
  X.heap[w.heap.size]? = some (.cells es 36 (0, 0)) ∧ X.heap[b4]? = some (.cells xs 93 (0, 0)) ∧ X.heap[b4 + 1]? = some (.cells rs 36 (0, 0)) ∧ Below w.heap.size w X ∧ w.heap.size + 1 ≤ b4
theorem SB.past {w X Y : World} {b4 : Nat} {es xs rs : Array Value} (h : SB w b4 es xs rs X) (hb : Below X.heap.size X Y) : SB w b4 es xs rs Y :=
  ⟨stayK h.1 hb, stayK h.2.1 hb, stayK h.2.2.1 hb, h.2.2.2.1.trans (hb.mono h.2.2.2.1.size), h.2.2.2.2⟩

set_option maxRecDepth 100000 in
set_option maxHeartbeats 2000000 in
theorem sinI_err {A : Option Addr} {n c B : Nat} {l : List UInt8} {x0 x1 x3 x4 x5 r1 r2 : Int} {x2 : Bool} (D : Value) (w : World) (hr : Rd w B A n l) (hB : B ≤ w.heap.size) (hc : n ≤ c) (hm : c ≤ maxLen) (hn : n ≤ 1000000)
    (hone : oneV l = (⟨x0, x1, x2, x3, x4, x5⟩, r1, r2)) (hz : ¬ r1 = 0) :
    Calls Try.prog 126 #[.slice A n c, D] w fun e w' => e = .returned (.tuple #[.int .i64 0, err r1 r2]) ∧ Below w.heap.size w w' := by
  have ON := Lib.hid (fun (X : World) (h : Below w.heap.size w X) => one_any (c := c) X (hr.below (h.mono hB)) (by have := h.size; omega) hc hm (by omega))
  rw [hone] at ON
  simp only [elR, elT] at ON
  clear hr hone
  go_enter Try.func126, Try.ntmps126
  go_upto_region 3 with (first | (go_at_call 88; go_must (go_fit (ON.out _ ((Below.refl _ _).alloc (Nat.le_refl _) _))); rintro e w1 ⟨rfl, hb1⟩; have t2 := blk1 hb1; have bel := bel1 hb1; have zs := hb1.size; simp only [World.size_alloc] at zs))
  refine wp_only (SB w w1.heap.size #[.int .i64 0, .int .i64 0] #[.int .i64 x0, .int .i64 x1, .bool x2, .int .i64 x3, .int .i64 x4, .int .i64 x5] #[.int .i64 r1, .int .i64 r2]) ?_ ?_
  · exact ⟨bk_old (bk_old t2), bk_old (bk_new rfl), bk_new (by simp), (by repeat' (first | (with_reducible exact Below.refl _ _) | (with_reducible assumption) | (with_reducible refine below_drewN ?_ _) | (with_reducible refine Below.drew ?_) | (with_reducible refine Below.alloc ?_ ?_ _) | (with_reducible refine Below.setCell ?_ ?_ _) | go_size)), by omega⟩
  intro w2 hp
  clear t2 bel zs hb1 ON
  generalize w1.heap.size = b4 at *
  clear w1
  have n1 : ¬ b4 = w.heap.size := by have := hp.2.2.2.2; omega
  have n2 : ¬ w.heap.size = b4 := by have := hp.2.2.2.2; omega
  have n3 : ¬ b4 + 1 = w.heap.size := by have := hp.2.2.2.2; omega
  have n4 : ¬ w.heap.size = b4 + 1 := by have := hp.2.2.2.2; omega
  have HP2 := Lib.hid hp
  obtain ⟨te, tx, tr, -, -⟩ := hp
  obtain ⟨s0, s1⟩ := cells2 te
  obtain ⟨g0, g1⟩ := freeP te
  obtain ⟨u0, u1, u2, u3, u4, u5⟩ := cells6 tx
  obtain ⟨v0, v1⟩ := cells2 tr
  clear te tx tr
  go_upto_region 4 with fail
  go_region_held3 (fun w' => w'.cell? ⟨b4 + 1, 0, none⟩ = some (.int .i64 r1) ∧ w'.cell? ⟨b4 + 1, 1, none⟩ = some (.int .i64 r2)) (go_keep) (fail)
  rename_i hheld
  clear hheld
  go_wp2
  clear s0 s1 g0 g1 u0 u1 u2 u3 u4 u5 v0 v1
  have td := cells2 (set2 (.int .i64 r1) (.int .i64 r2) HP2.out.1)
  have bel := HP2.out.2.2.2.1
  refine bodyPost_ret (v := .tuple #[.int .i64 0, err r1 r2]) (by simp [results, Try.results126, go_sem, *]) rfl ?_
  exact ⟨rfl, (by repeat' (first | (with_reducible exact Below.refl _ _) | (with_reducible assumption) | (with_reducible refine below_drewN ?_ _) | (with_reducible refine Below.drew ?_) | (with_reducible refine Below.alloc ?_ ?_ _) | (with_reducible refine Below.setCell ?_ ?_ _) | go_size))⟩

set_option maxRecDepth 100000 in
set_option maxHeartbeats 2000000 in
theorem sinI_val {A : Option Addr} {n c B : Nat} {l : List UInt8} {x0 x1 x3 x4 x5 r1 r2 : Int} {x2 : Bool} (D : Value) (w : World) (hr : Rd w B A n l) (hB : B ≤ w.heap.size) (hc : n ≤ c) (hm : c ≤ maxLen) (hn : n ≤ 1000000)
    (hone : oneV l = (⟨x0, x1, x2, x3, x4, x5⟩, r1, r2)) {v : Int} {bq : Bool} (hz : r1 = 0) (hv : ∀ X : World, Below w.heap.size w X → Calls Try.prog 110 #[.slice A n c, .agg #[.int .i64 x0, .int .i64 x1, .bool x2, .int .i64 x3, .int .i64 x4, .int .i64 x5], .int .i64 0, .int .i64 2, D] X fun e X' => e = .returned (.tuple #[.int .i64 v, .bool bq]) ∧ Below X.heap.size X X') :
    Calls Try.prog 126 #[.slice A n c, D] w fun e w' => e = .returned (.tuple #[.int .i64 (if bq = true then v else 0), if bq = true then err 0 0 else err 6 x4]) ∧ Below w.heap.size w w' := by
  have ON := Lib.hid (fun (X : World) (h : Below w.heap.size w X) => one_any (c := c) X (hr.below (h.mono hB)) (by have := h.size; omega) hc hm (by omega))
  rw [hone] at ON
  simp only [elR, elT] at ON
  obtain ⟨k1, k2, k3, k4, k5⟩ := one_bd (l := l) (by rw [hone]; exact hz)
  have hl := hr.len
  rw [hone] at k1 k2 k3 k4 k5
  simp only [] at k1 k2 k3 k4 k5
  rw [hl] at k5
  subst hz
  subst k1 k2 k5
  obtain ⟨m4, rfl⟩ := Int.eq_ofNat_of_zero_le (show 0 ≤ x4 from by omega)
  have hm4 : m4 ≤ n := by omega
  have HV := Lib.hid hv
  clear hv
  clear hr hone
  go_enter Try.func126, Try.ntmps126
  go_upto_region 3 with (first | (go_at_call 88; go_must (go_fit (ON.out _ ((Below.refl _ _).alloc (Nat.le_refl _) _))); rintro e w1 ⟨rfl, hb1⟩; have t2 := blk1 hb1; have bel := bel1 hb1; have zs := hb1.size; simp only [World.size_alloc] at zs))
  refine wp_only (SB w w1.heap.size #[.int .i64 0, .int .i64 0] #[.int .i64 x0, .int .i64 x1, .bool x2, .int .i64 0, .int .i64 (m4 : Int), .int .i64 (n : Int)] #[.int .i64 0, .int .i64 0]) ?_ ?_
  · exact ⟨bk_old (bk_old t2), bk_old (bk_new rfl), bk_new (by simp), (by repeat' (first | (with_reducible exact Below.refl _ _) | (with_reducible assumption) | (with_reducible refine below_drewN ?_ _) | (with_reducible refine Below.drew ?_) | (with_reducible refine Below.alloc ?_ ?_ _) | (with_reducible refine Below.setCell ?_ ?_ _) | go_size)), by omega⟩
  intro w2 hp
  clear t2 bel zs hb1 ON
  generalize w1.heap.size = b4 at *
  clear w1
  have n1 : ¬ b4 = w.heap.size := by have := hp.2.2.2.2; omega
  have n2 : ¬ w.heap.size = b4 := by have := hp.2.2.2.2; omega
  have n3 : ¬ b4 + 1 = w.heap.size := by have := hp.2.2.2.2; omega
  have n4 : ¬ w.heap.size = b4 + 1 := by have := hp.2.2.2.2; omega
  have HP2 := Lib.hid hp
  obtain ⟨te, tx, tr, -, -⟩ := hp
  obtain ⟨s0, s1⟩ := cells2 te
  obtain ⟨g0, g1⟩ := freeP te
  obtain ⟨u0, u1, u2, u3, u4, u5⟩ := cells6 tx
  obtain ⟨v0, v1⟩ := cells2 tr
  clear te tx tr
  have VV := Lib.hid (HV.out w2 HP2.out.2.2.2.1)
  clear HV
  go_upto_region 5 with fail
  go_wp2_with fail
  go_must (go_fit VV.out)
  rintro e w3 ⟨rfl, hb3⟩
  have HP3 := Lib.hid (SB.past HP2.out hb3)
  clear hb3 s0 s1 g0 g1 u0 u1 u2 u3 u4 u5 v0 v1 VV
  obtain ⟨s0, s1⟩ := cells2 HP3.out.1
  obtain ⟨g0, g1⟩ := freeP HP3.out.1
  obtain ⟨u0, u1, u2, u3, u4, u5⟩ := cells6 HP3.out.2.1
  cases bq with
  | false =>
    go_upto_region 7 with fail
    go_region_held3 (fun w' => w'.cell? ⟨b4, 4, none⟩ = some (.int .i64 (m4 : Int))) (go_keep) (fail)
    rename_i hheld
    clear hheld
    go_wp2
    clear s0 s1 g0 g1 u0 u1 u2 u3 u4 u5
    have td := cells2 (set2 (.int .i64 6) (.int .i64 (m4 : Int)) HP3.out.1)
    have bel := HP3.out.2.2.2.1
    refine bodyPost_ret (v := .tuple #[.int .i64 0, err 6 (m4 : Int)]) (by simp [results, Try.results126, go_sem, *]) rfl ?_
    exact ⟨rfl, (by repeat' (first | (with_reducible exact Below.refl _ _) | (with_reducible assumption) | (with_reducible refine below_drewN ?_ _) | (with_reducible refine Below.drew ?_) | (with_reducible refine Below.alloc ?_ ?_ _) | (with_reducible refine Below.setCell ?_ ?_ _) | go_size))⟩
  | true =>
    go_wp2
    clear s0 s1 g0 g1 u0 u1 u2 u3 u4 u5
    have td := cells2 (set2 (.int .i64 0) (.int .i64 0) HP3.out.1)
    have bel := HP3.out.2.2.2.1
    refine bodyPost_ret (v := .tuple #[.int .i64 v, err 0 0]) (by simp [results, Try.results126, go_sem, *]) rfl ?_
    exact ⟨rfl, (by repeat' (first | (with_reducible exact Below.refl _ _) | (with_reducible assumption) | (with_reducible refine below_drewN ?_ _) | (with_reducible refine Below.drew ?_) | (with_reducible refine Below.alloc ?_ ?_ _) | (with_reducible refine Below.setCell ?_ ?_ _) | go_size))⟩

set_option maxRecDepth 100000 in
set_option maxHeartbeats 2000000 in
theorem sinN_err {A : Option Addr} {n c B : Nat} {l : List UInt8} {x0 x1 x3 x4 x5 r1 r2 : Int} {x2 : Bool} (D : Value) (w : World) (hr : Rd w B A n l) (hB : B ≤ w.heap.size) (hc : n ≤ c) (hm : c ≤ maxLen) (hn : n ≤ 1000000)
    (hone : oneV l = (⟨x0, x1, x2, x3, x4, x5⟩, r1, r2)) (hz : ¬ r1 = 0) :
    Calls Try.prog 127 #[.slice A n c, D] w fun e w' => e = .returned (.tuple #[.slice none 0 0, err r1 r2]) ∧ Below w.heap.size w w' := by
  have ON := Lib.hid (fun (X : World) (h : Below w.heap.size w X) => one_any (c := c) X (hr.below (h.mono hB)) (by have := h.size; omega) hc hm (by omega))
  rw [hone] at ON
  simp only [elR, elT] at ON
  clear hr hone
  go_enter Try.func127, Try.ntmps127
  go_upto_region 3 with (first | (go_at_call 88; go_must (go_fit (ON.out _ ((Below.refl _ _).alloc (Nat.le_refl _) _))); rintro e w1 ⟨rfl, hb1⟩; have t2 := blk1 hb1; have bel := bel1 hb1; have zs := hb1.size; simp only [World.size_alloc] at zs))
  refine wp_only (SB w w1.heap.size #[.int .i64 0, .int .i64 0] #[.int .i64 x0, .int .i64 x1, .bool x2, .int .i64 x3, .int .i64 x4, .int .i64 x5] #[.int .i64 r1, .int .i64 r2]) ?_ ?_
  · exact ⟨bk_old (bk_old t2), bk_old (bk_new rfl), bk_new (by simp), (by repeat' (first | (with_reducible exact Below.refl _ _) | (with_reducible assumption) | (with_reducible refine below_drewN ?_ _) | (with_reducible refine Below.drew ?_) | (with_reducible refine Below.alloc ?_ ?_ _) | (with_reducible refine Below.setCell ?_ ?_ _) | go_size)), by omega⟩
  intro w2 hp
  clear t2 bel zs hb1 ON
  generalize w1.heap.size = b4 at *
  clear w1
  have n1 : ¬ b4 = w.heap.size := by have := hp.2.2.2.2; omega
  have n2 : ¬ w.heap.size = b4 := by have := hp.2.2.2.2; omega
  have n3 : ¬ b4 + 1 = w.heap.size := by have := hp.2.2.2.2; omega
  have n4 : ¬ w.heap.size = b4 + 1 := by have := hp.2.2.2.2; omega
  have HP2 := Lib.hid hp
  obtain ⟨te, tx, tr, -, -⟩ := hp
  obtain ⟨s0, s1⟩ := cells2 te
  obtain ⟨g0, g1⟩ := freeP te
  obtain ⟨u0, u1, u2, u3, u4, u5⟩ := cells6 tx
  obtain ⟨v0, v1⟩ := cells2 tr
  clear te tx tr
  go_upto_region 4 with fail
  go_region_held3 (fun w' => w'.cell? ⟨b4 + 1, 0, none⟩ = some (.int .i64 r1) ∧ w'.cell? ⟨b4 + 1, 1, none⟩ = some (.int .i64 r2)) (go_keep) (fail)
  rename_i hheld
  clear hheld
  go_wp2
  clear s0 s1 g0 g1 u0 u1 u2 u3 u4 u5 v0 v1
  have td := cells2 (set2 (.int .i64 r1) (.int .i64 r2) HP2.out.1)
  have bel := HP2.out.2.2.2.1
  refine bodyPost_ret (v := .tuple #[.slice none 0 0, err r1 r2]) (by simp [results, Try.results127, go_sem, *]) rfl ?_
  exact ⟨rfl, (by repeat' (first | (with_reducible exact Below.refl _ _) | (with_reducible assumption) | (with_reducible refine below_drewN ?_ _) | (with_reducible refine Below.drew ?_) | (with_reducible refine Below.alloc ?_ ?_ _) | (with_reducible refine Below.setCell ?_ ?_ _) | go_size))⟩

set_option maxRecDepth 100000 in
set_option maxHeartbeats 2000000 in
theorem sinN_val {A : Option Addr} {n c B : Nat} {l : List UInt8} {x0 x1 x3 x4 x5 r1 r2 : Int} {x2 : Bool} (D : Value) (w : World) (hr : Rd w B A n l) (hB : B ≤ w.heap.size) (hc : n ≤ c) (hm : c ≤ maxLen) (hn : n ≤ 1000000)
    (hone : oneV l = (⟨x0, x1, x2, x3, x4, x5⟩, r1, r2)) {mm : Nat} {q : List UInt8} {bq : Bool} (hz : r1 = 0) (hv : ∀ X : World, Below w.heap.size w X → Calls Try.prog 153 #[.slice A n c, .agg #[.int .i64 x0, .int .i64 x1, .bool x2, .int .i64 x3, .int .i64 x4, .int .i64 x5], .int .i64 0, .int .i64 2, D] X fun e X' => ∃ A' c', e = .returned (.tuple #[.slice A' mm c', .bool bq]) ∧ Own X' X.heap.size A' mm c' q ∧ Below X.heap.size X X') :
    Calls Try.prog 127 #[.slice A n c, D] w fun e w' => ∃ A' c', e = .returned (.tuple #[.slice A' (if bq = true then mm else 0) c', if bq = true then err 0 0 else err 6 x4]) ∧ Own w' w.heap.size A' (if bq = true then mm else 0) c' (if bq = true then q else []) ∧ Below w.heap.size w w' := by
  have ON := Lib.hid (fun (X : World) (h : Below w.heap.size w X) => one_any (c := c) X (hr.below (h.mono hB)) (by have := h.size; omega) hc hm (by omega))
  rw [hone] at ON
  simp only [elR, elT] at ON
  obtain ⟨k1, k2, k3, k4, k5⟩ := one_bd (l := l) (by rw [hone]; exact hz)
  have hl := hr.len
  rw [hone] at k1 k2 k3 k4 k5
  simp only [] at k1 k2 k3 k4 k5
  rw [hl] at k5
  subst hz
  subst k1 k2 k5
  obtain ⟨m4, rfl⟩ := Int.eq_ofNat_of_zero_le (show 0 ≤ x4 from by omega)
  have hm4 : m4 ≤ n := by omega
  have HV := Lib.hid hv
  clear hv
  clear hr hone
  go_enter Try.func127, Try.ntmps127
  go_upto_region 3 with (first | (go_at_call 88; go_must (go_fit (ON.out _ ((Below.refl _ _).alloc (Nat.le_refl _) _))); rintro e w1 ⟨rfl, hb1⟩; have t2 := blk1 hb1; have bel := bel1 hb1; have zs := hb1.size; simp only [World.size_alloc] at zs))
  refine wp_only (SB w w1.heap.size #[.int .i64 0, .int .i64 0] #[.int .i64 x0, .int .i64 x1, .bool x2, .int .i64 0, .int .i64 (m4 : Int), .int .i64 (n : Int)] #[.int .i64 0, .int .i64 0]) ?_ ?_
  · exact ⟨bk_old (bk_old t2), bk_old (bk_new rfl), bk_new (by simp), (by repeat' (first | (with_reducible exact Below.refl _ _) | (with_reducible assumption) | (with_reducible refine below_drewN ?_ _) | (with_reducible refine Below.drew ?_) | (with_reducible refine Below.alloc ?_ ?_ _) | (with_reducible refine Below.setCell ?_ ?_ _) | go_size)), by omega⟩
  intro w2 hp
  clear t2 bel zs hb1 ON
  generalize w1.heap.size = b4 at *
  clear w1
  have n1 : ¬ b4 = w.heap.size := by have := hp.2.2.2.2; omega
  have n2 : ¬ w.heap.size = b4 := by have := hp.2.2.2.2; omega
  have n3 : ¬ b4 + 1 = w.heap.size := by have := hp.2.2.2.2; omega
  have n4 : ¬ w.heap.size = b4 + 1 := by have := hp.2.2.2.2; omega
  have HP2 := Lib.hid hp
  obtain ⟨te, tx, tr, -, -⟩ := hp
  obtain ⟨s0, s1⟩ := cells2 te
  obtain ⟨g0, g1⟩ := freeP te
  obtain ⟨u0, u1, u2, u3, u4, u5⟩ := cells6 tx
  obtain ⟨v0, v1⟩ := cells2 tr
  clear te tx tr
  have VV := Lib.hid (HV.out w2 HP2.out.2.2.2.1)
  clear HV
  go_upto_region 5 with fail
  go_wp2_with fail
  go_must (go_fit VV.out)
  rintro e w3 ⟨A3, c3, rfl, o3, hb3⟩
  have O3 := Lib.hid o3
  clear o3
  have HP3 := Lib.hid (SB.past HP2.out hb3)
  clear hb3 s0 s1 g0 g1 u0 u1 u2 u3 u4 u5 v0 v1 VV
  obtain ⟨s0, s1⟩ := cells2 HP3.out.1
  obtain ⟨g0, g1⟩ := freeP HP3.out.1
  obtain ⟨u0, u1, u2, u3, u4, u5⟩ := cells6 HP3.out.2.1
  cases bq with
  | false =>
    go_upto_region 7 with fail
    go_region_held3 (fun w' => w'.cell? ⟨b4, 4, none⟩ = some (.int .i64 (m4 : Int))) (go_keep) (fail)
    rename_i hheld
    clear hheld
    go_wp2
    clear s0 s1 g0 g1 u0 u1 u2 u3 u4 u5
    have td := cells2 (set2 (.int .i64 6) (.int .i64 (m4 : Int)) HP3.out.1)
    have bel := HP3.out.2.2.2.1
    refine bodyPost_ret (v := .tuple #[.slice none 0 0, err 6 (m4 : Int)]) (by simp [results, Try.results127, go_sem, *]) rfl ?_
    exact ⟨none, 0, rfl, Own.none_ _ _, (by repeat' (first | (with_reducible exact Below.refl _ _) | (with_reducible assumption) | (with_reducible refine below_drewN ?_ _) | (with_reducible refine Below.drew ?_) | (with_reducible refine Below.alloc ?_ ?_ _) | (with_reducible refine Below.setCell ?_ ?_ _) | go_size))⟩
  | true =>
    go_wp2
    clear s0 s1 g0 g1 u0 u1 u2 u3 u4 u5
    have td := cells2 (set2 (.int .i64 0) (.int .i64 0) HP3.out.1)
    have bel := HP3.out.2.2.2.1
    refine bodyPost_ret (v := .tuple #[.slice A3 mm c3, err 0 0]) (by simp [results, Try.results127, go_sem, *]) rfl ?_
    exact ⟨A3, c3, rfl, (Own.setOld (Own.setOld O3.out (Blk_lt HP2.out.1) _) (Blk_lt HP2.out.1) _).mono (Nat.le_of_lt (Blk_lt HP2.out.1)), (by repeat' (first | (with_reducible exact Below.refl _ _) | (with_reducible assumption) | (with_reducible refine below_drewN ?_ _) | (with_reducible refine Below.drew ?_) | (with_reducible refine Below.alloc ?_ ?_ _) | (with_reducible refine Below.setCell ?_ ?_ _) | go_size))⟩

set_option maxRecDepth 100000 in
set_option maxHeartbeats 2000000 in
theorem parcount_raw {A : Option Addr} {n c : Nat} (w : World) (k o v : Int)
    (hp : Calls Try.prog 126 #[.slice A n c, .func (.func 111) #[] #[]] (w.alloc (.cells #[.int .i64 0, .int .i64 0] 36)) fun e X => e = .returned (.tuple #[.int .i64 v, err k o]) ∧ Below (w.alloc (.cells #[.int .i64 0, .int .i64 0] 36)).heap.size (w.alloc (.cells #[.int .i64 0, .int .i64 0] 36)) X) :
    Calls Try.prog 74 #[.slice A n c] w fun e w' => e = .returned (.tuple #[.int .i64 v, err k o]) ∧ Below w.heap.size w w' := by
  have PR := Lib.hid hp
  clear hp
  go_enter Try.func74, Try.ntmps74
  go_wp2_with fail
  go_must (go_fit PR.out)
  rintro e w1 ⟨rfl, hb1⟩
  have t1 := blk1 hb1
  have bel := bel1 hb1
  have T1 := Lib.hid t1
  obtain ⟨s0, s1⟩ := cells2 t1
  obtain ⟨g0, g1⟩ := freeP t1
  clear t1 hb1
  go_wp2
  clear s0 s1 g0 g1
  have td := cells2 (set2 (.int .i64 k) (.int .i64 o) T1.out)
  refine bodyPost_ret (v := .tuple #[.int .i64 v, err k o]) (by simp [results, Try.results74, go_sem, *]) rfl ?_
  exact ⟨rfl, (by repeat' (first | (with_reducible exact Below.refl _ _) | (with_reducible assumption) | (with_reducible refine below_drewN ?_ _) | (with_reducible refine Below.drew ?_) | (with_reducible refine Below.alloc ?_ ?_ _) | (with_reducible refine Below.setCell ?_ ?_ _) | go_size))⟩

set_option maxRecDepth 100000 in
set_option maxHeartbeats 2000000 in
theorem parnum_raw {A : Option Addr} {n c : Nat} (w : World) (k o : Int) (m : Nat) (q : List UInt8)
    (hp : Calls Try.prog 127 #[.slice A n c, .func (.func 128) #[] #[]] (w.alloc (.cells #[.int .i64 0, .int .i64 0] 36)) fun e X => ∃ A' c', e = .returned (.tuple #[.slice A' m c', err k o]) ∧ Own X (w.alloc (.cells #[.int .i64 0, .int .i64 0] 36)).heap.size A' m c' q ∧ Below (w.alloc (.cells #[.int .i64 0, .int .i64 0] 36)).heap.size (w.alloc (.cells #[.int .i64 0, .int .i64 0] 36)) X) :
    Calls Try.prog 75 #[.slice A n c] w fun e w' => ∃ A' c', e = .returned (.tuple #[.slice A' m c', err k o]) ∧ Own w' w.heap.size A' m c' q ∧ Below w.heap.size w w' := by
  have PR := Lib.hid hp
  clear hp
  go_enter Try.func75, Try.ntmps75
  go_wp2_with fail
  go_must (go_fit PR.out)
  rintro e w1 ⟨A1, c1, rfl, o1, hb1⟩
  have t1 := blk1 hb1
  have bel := bel1 hb1
  have T1 := Lib.hid t1
  have O1 := Lib.hid o1
  obtain ⟨s0, s1⟩ := cells2 t1
  obtain ⟨g0, g1⟩ := freeP t1
  clear t1 hb1 o1
  go_wp2
  clear s0 s1 g0 g1
  have td := cells2 (set2 (.int .i64 k) (.int .i64 o) T1.out)
  refine bodyPost_ret (v := .tuple #[.slice A1 m c1, err k o]) (by simp [results, Try.results75, go_sem, *]) rfl ?_
  exact ⟨A1, c1, rfl, (Own.setOld (Own.setOld O1.out (by simp) _) (by simp) _).mono (by simp), (by repeat' (first | (with_reducible exact Below.refl _ _) | (with_reducible assumption) | (with_reducible refine below_drewN ?_ _) | (with_reducible refine Below.drew ?_) | (with_reducible refine Below.alloc ?_ ?_ _) | (with_reducible refine Below.setCell ?_ ?_ _) | go_size))⟩
end Go.Proofs.Ytnpmgofkfdpbjaa.Bas
/- What ParseCount and ParseNumber of basic return: what the bytes are the encoding of, or an error. -/
namespace Go.Proofs.Ytnpmgofkfdpbjaa.Bas
open Go.RowKit Kit Tlv

def CntOk (w : World) (args : Array Value) (l : List UInt8) : Prop :=
  ∃ v, cntB v = true ∧ l = cntL v ∧ Calls Try.prog 74 args w fun e w' => e = .returned (.tuple #[.int .i64 v, err 0 0]) ∧ Below w.heap.size w w'
def CntNo (w : World) (args : Array Value) (l : List UInt8) : Prop :=
  (∀ v, cntB v = true → l ≠ cntL v) ∧ ∃ code off, 0 < code ∧ 0 ≤ off ∧ off ≤ (l.length : Int) ∧ Calls Try.prog 74 args w fun e w' => e = .returned (.tuple #[.int .i64 0, err code off]) ∧ Below w.heap.size w w'
def NumOk (w : World) (args : Array Value) (l : List UInt8) : Prop :=
  ∃ q, numB q = true ∧ l = numL q ∧ Calls Try.prog 75 args w fun e w' => ∃ A' c', e = .returned (.tuple #[.slice A' q.length c', err 0 0]) ∧ Own w' w.heap.size A' q.length c' q ∧ Below w.heap.size w w'
def NumNo (w : World) (args : Array Value) (l : List UInt8) : Prop :=
  (∀ q, numB q = true → l ≠ numL q) ∧ ∃ code off, 0 < code ∧ 0 ≤ off ∧ off ≤ (l.length : Int) ∧
    Calls Try.prog 75 args w fun e w' => ∃ A' c', e = .returned (.tuple #[.slice A' 0 c', err code off]) ∧ Own w' w.heap.size A' 0 c' [] ∧ Below w.heap.size w w'

theorem parcount_any {A : Option Addr} {n c B : Nat} {l : List UInt8} (w : World) (hr : Rd w B A n l) (hB : B ≤ w.heap.size) (hc : n ≤ c) (hm : c ≤ maxLen) (hn : n ≤ 1000000) :
    CntOk w #[.slice A n c] l ∨ CntNo w #[.slice A n c] l := by
  have hl := hr.len
  have hrX := hr.alloc hB (.cells #[.int .i64 0, .int .i64 0] 36)
  have hBX : B ≤ (w.alloc (.cells #[.int .i64 0, .int .i64 0] 36)).heap.size := by simp; omega
  obtain ⟨x0, x1, x2, x3, x4, x5, r1, r2, hone⟩ : ∃ x0 x1 x2 x3 x4 x5 r1 r2, oneV l = (⟨x0, x1, x2, x3, x4, x5⟩, r1, r2) := ⟨_, _, _, _, _, _, _, _, rfl⟩
  by_cases hz : r1 = 0
  · obtain ⟨k1, k2, k3⟩ := Val.one_con (l := l) (by rw [hone]; exact hz)
    obtain ⟨d1, d2, d3, d4, d5⟩ := one_bd (l := l) (by rw [hone]; exact hz)
    generalize (nx l).con = k at *
    rw [hone] at k1 k2 k3 d1 d2 d3 d4 d5
    simp only [] at k1 k2 k3 d1 d2 d3 d4 d5
    obtain ⟨m4, rfl⟩ := Int.eq_ofNat_of_zero_le (show 0 ≤ x4 from by omega)
    subst d5
    rw [Int.toNat_natCast] at k1
    by_cases hT : (x0 = 0 ∧ x2 = false) ∧ x1 = 2
    · have hp := sinI_val (.func (.func 111) #[] #[]) _ hrX hBX hc hm hn hone (v := if rdB k = true then Int4.intV k else 0) (bq := rdB k) hz (fun X hX => by
        have := valI_at (x3 := x3) m4 l.length 0 2 X (hrX.below (hX.mono hBX)) (Nat.le_trans hBX hX.size) hc hn (by omega) (by omega) hT
        rw [k1] at this
        exact this)
      obtain ⟨⟨e0, e2⟩, e1⟩ := hT
      rw [e0, e1, e2] at k2
      rw [e0, e1] at k3
      cases hb : rdB k with
      | true =>
        rw [hb] at hp
        obtain ⟨f1, f2⟩ := rd_of hb
        exact .inl ⟨_, f1, by rw [(cnt_yes f1).2, nmL, f2]; exact k2.symm, parcount_raw w 0 0 _ hp⟩
      | false =>
        rw [hb] at hp
        refine .inr ⟨fun v hv e => ?_, 6, m4, by omega, by omega, by omega, parcount_raw w 6 m4 0 hp⟩
        rw [← k2, (cnt_yes hv).2, nmL] at e
        have hk := (Val.enc_inj (nm_code (by omega) (by omega) (int_bd hv)) k3 e).2.2.2
        rw [← hk, (rd_back hv).1] at hb
        cases hb
    · have hp := sinI_val (.func (.func 111) #[] #[]) _ hrX hBX hc hm hn hone (v := 0) (bq := false) hz (fun X hX => valI_no 0 2 _ X hT)
      refine .inr ⟨fun v hv e => ?_, 6, m4, by omega, by omega, by omega, parcount_raw w 6 m4 0 hp⟩
      rw [← k2, (cnt_yes hv).2, nmL] at e
      obtain ⟨i1, i2, i3, _⟩ := Val.enc_inj (nm_code (by omega) (by omega) (int_bd hv)) k3 e
      exact hT ⟨⟨i1.symm, i3.symm⟩, i2.symm⟩
  · obtain ⟨d1, d2, d3, d4⟩ := one_err (l := l) (by omega) (by rw [hone]; exact hz)
    rw [hone] at d2 d3 d4
    have hp := sinI_err (.func (.func 111) #[] #[]) _ hrX hBX hc hm hn hone hz
    refine .inr ⟨fun v hv e => ?_, r1, r2, d2, d3, d4, parcount_raw w r1 r2 0 hp⟩
    rw [e, (cnt_yes hv).2, nmL, one_enc (nm_code (by omega) (by omega) (int_bd hv))] at hone
    injection hone with _ h2
    injection h2 with h2
    exact hz h2.symm

theorem parnum_any {A : Option Addr} {n c B : Nat} {l : List UInt8} (w : World) (hr : Rd w B A n l) (hB : B ≤ w.heap.size) (hc : n ≤ c) (hm : c ≤ maxLen) (hn : n ≤ 1000000) :
    NumOk w #[.slice A n c] l ∨ NumNo w #[.slice A n c] l := by
  have hl := hr.len
  have hrX := hr.alloc hB (.cells #[.int .i64 0, .int .i64 0] 36)
  have hBX : B ≤ (w.alloc (.cells #[.int .i64 0, .int .i64 0] 36)).heap.size := by simp; omega
  obtain ⟨x0, x1, x2, x3, x4, x5, r1, r2, hone⟩ : ∃ x0 x1 x2 x3 x4 x5 r1 r2, oneV l = (⟨x0, x1, x2, x3, x4, x5⟩, r1, r2) := ⟨_, _, _, _, _, _, _, _, rfl⟩
  by_cases hz : r1 = 0
  · obtain ⟨k1, k2, k3⟩ := Val.one_con (l := l) (by rw [hone]; exact hz)
    obtain ⟨d1, d2, d3, d4, d5⟩ := one_bd (l := l) (by rw [hone]; exact hz)
    generalize (nx l).con = k at *
    rw [hone] at k1 k2 k3 d1 d2 d3 d4 d5
    simp only [] at k1 k2 k3 d1 d2 d3 d4 d5
    obtain ⟨m4, rfl⟩ := Int.eq_ofNat_of_zero_le (show 0 ≤ x4 from by omega)
    subst d5
    rw [Int.toNat_natCast] at k1
    have hkl : k.length = l.length - m4 := by rw [← k1, List.length_take, List.length_drop]; omega
    by_cases hT : (x0 = 0 ∧ x2 = false) ∧ x1 = 2
    · have hp := sinN_val (.func (.func 128) #[] #[]) _ hrX hBX hc hm hn hone (mm := if numB k = true then l.length - m4 else 0) (q := if numB k = true then k else []) (bq := numB k) hz (fun X hX => by
        have := valN_at (x3 := x3) m4 l.length 0 2 X (hrX.below (hX.mono hBX)) (Nat.le_trans hBX hX.size) hc hn (by omega) (by omega) hT
        rw [k1] at this
        exact this)
      obtain ⟨⟨e0, e2⟩, e1⟩ := hT
      rw [e0, e1, e2] at k2
      rw [e0, e1] at k3
      cases hb : numB k with
      | true =>
        rw [hb] at hp
        refine .inl ⟨k, hb, by rw [(num_yes hb).2]; exact k2.symm, ?_⟩
        rw [hkl]
        exact parnum_raw w 0 0 _ k hp
      | false =>
        rw [hb] at hp
        refine .inr ⟨fun q hv e => ?_, 6, m4, by omega, by omega, by omega, parnum_raw w 6 m4 0 [] hp⟩
        rw [← k2, (num_yes hv).2] at e
        have hk := (Val.enc_inj (num_code hv).1 k3 e).2.2.2
        rw [← hk, hv] at hb
        cases hb
    · have hp := sinN_val (.func (.func 128) #[] #[]) _ hrX hBX hc hm hn hone (mm := 0) (q := []) (bq := false) hz (fun X hX => (valN_no 0 2 _ X hT).mono fun e X' h => ⟨none, 0, h.1, Own.none_ _ _, h.2⟩)
      refine .inr ⟨fun q hv e => ?_, 6, m4, by omega, by omega, by omega, parnum_raw w 6 m4 0 [] hp⟩
      rw [← k2, (num_yes hv).2] at e
      obtain ⟨i1, i2, i3, _⟩ := Val.enc_inj (num_code hv).1 k3 e
      exact hT ⟨⟨i1.symm, i3.symm⟩, i2.symm⟩
  · obtain ⟨d1, d2, d3, d4⟩ := one_err (l := l) (by omega) (by rw [hone]; exact hz)
    rw [hone] at d2 d3 d4
    have hp := sinN_err (.func (.func 128) #[] #[]) _ hrX hBX hc hm hn hone hz
    refine .inr ⟨fun q hv e => ?_, r1, r2, d2, d3, d4, parnum_raw w r1 r2 0 [] (hp.mono fun e X h => ⟨none, 0, h.1, Own.none_ _ _, h.2⟩)⟩
    rw [e, (num_yes hv).2, one_enc (num_code hv).1] at hone
    injection hone with _ h2
    injection h2 with h2
    exact hz h2.symm
end Go.Proofs.Ytnpmgofkfdpbjaa.Bas
/- Plain: basic constraints and policy constraints as elements. No program in sight. -/
namespace Go.Proofs.Ytnpmgofkfdpbjaa.Bas
open Kit Tlv

/-- basic constraints are valid -/
def basB (ca hp : Bool) (p : Int) : Bool := cntB p && ((!hp || ca) && (hp || decide (p = 0)))
/-- their parts' encodings -/
def basP (ca hp : Bool) (p : Int) : List UInt8 := (if ca = true then [1, 1, 255] else []) ++ (if hp = true then nmL 0 2 p else [])
def basC (ca hp : Bool) (p : Int) : Int := if basB ca hp p = true then 0 else 8
def basL (ca hp : Bool) (p : Int) : List UInt8 := if basB ca hp p = true then encL 0 true 16 (basP ca hp p) else []
/-- policy constraints are valid -/
def fitB (h : Bool) (n : Int) : Bool := cntB n && (h || decide (n = 0))
def skiB (hr : Bool) (r : Int) (hi : Bool) (i : Int) : Bool := (hr || hi) && (fitB hr r && fitB hi i)
def skiP (hr : Bool) (r : Int) (hi : Bool) (i : Int) : List UInt8 := (if hr = true then nmL 2 0 r else []) ++ (if hi = true then nmL 2 1 i else [])
def skiC (hr : Bool) (r : Int) (hi : Bool) (i : Int) : Int := if skiB hr r hi i = true then 0 else 8
def skiL (hr : Bool) (r : Int) (hi : Bool) (i : Int) : List UInt8 := if skiB hr r hi i = true then encL 0 true 16 (skiP hr r hi i) else []
theorem bas_yes {ca hp : Bool} {p : Int} (h : basB ca hp p = true) : basC ca hp p = 0 ∧ basL ca hp p = encL 0 true 16 (basP ca hp p) := by unfold basC basL; simp [h]
theorem bas_no {ca hp : Bool} {p : Int} (h : basB ca hp p = false) : basC ca hp p = 8 ∧ basL ca hp p = [] := by unfold basC basL; simp [h]
theorem ski_yes {hr hi : Bool} {r i : Int} (h : skiB hr r hi i = true) : skiC hr r hi i = 0 ∧ skiL hr r hi i = encL 0 true 16 (skiP hr r hi i) := by unfold skiC skiL; simp [h]
theorem ski_no {hr hi : Bool} {r i : Int} (h : skiB hr r hi i = false) : skiC hr r hi i = 8 ∧ skiL hr r hi i = [] := by unfold skiC skiL; simp [h]
theorem basB_iff {ca hp : Bool} {p : Int} : basB ca hp p = true ↔ cntB p = true ∧ (hp = true → ca = true) ∧ (hp = false → p = 0) := by
  unfold basB; cases hp <;> cases ca <;> simp
theorem skiB_iff {hr hi : Bool} {r i : Int} : skiB hr r hi i = true ↔ (hr = true ∨ hi = true) ∧ cntB r = true ∧ (hr = false → r = 0) ∧ cntB i = true ∧ (hi = false → i = 0) := by
  unfold skiB fitB; cases hr <;> cases hi <;> simp [and_assoc]
theorem basP_len {ca hp : Bool} {p : Int} (h : cntB p = true) : (basP ca hp p).length ≤ 33 := by
  have := nm_len (c := 0) (t := 2) (by omega) (by omega) h
  unfold basP; cases hp <;> cases ca <;> simp <;> omega
theorem skiP_len {hr hi : Bool} {r i : Int} (h : cntB r = true) (h' : cntB i = true) : (skiP hr r hi i).length ≤ 60 := by
  have := nm_len (c := 2) (t := 0) (by omega) (by omega) h
  have := nm_len (c := 2) (t := 1) (by omega) (by omega) h'
  unfold skiP; cases hr <;> cases hi <;> simp <;> omega
theorem seq_code {k : List UInt8} (h : k.length ≤ 1000) : encCode 0 16 k.length = 0 := encCode_mk (by decide) (lenCode_ok (by omega) (by omega))
end Go.Proofs.Ytnpmgofkfdpbjaa.Bas
/- Plain: elements one behind the other: what is read is what was written, and back. No program in sight. -/
namespace Go.Proofs.Ytnpmgofkfdpbjaa.Tlv
open Kit Cur

/-- the contents of an element in a slice -/
def conX (l : List UInt8) (x : El) : List UInt8 := (l.drop x.body.toNat).take (x.stop.toNat - x.body.toNat)
theorem elV_nx {l : List UInt8} {a z : Nat} (ha : a ≤ z) (hz : z ≤ l.length) :
    elV l a z = if (nx ((l.drop a).take (z - a))).code ≠ 0 then (El.zero, (nx ((l.drop a).take (z - a))).code, (nx ((l.drop a).take (z - a))).off + a)
      else (⟨(nx ((l.drop a).take (z - a))).hd.cls, (nx ((l.drop a).take (z - a))).hd.num, (nx ((l.drop a).take (z - a))).hd.cons, a, a + (nx ((l.drop a).take (z - a))).hd.size, a + (nx ((l.drop a).take (z - a))).hd.size + (nx ((l.drop a).take (z - a))).hd.len⟩, 0, 0) := by
  have hs : ((l.drop a).take (z - a)).length = z - a := by rw [List.length_take, List.length_drop]; omega
  unfold elV nx
  rw [hs]
  generalize (l.drop a).take (z - a) = s at *
  simp only []
  by_cases h : (rh s).2.1 ≠ 0
  · rw [if_pos h, if_pos h]
    simp only []
    rw [if_pos h]
  · rw [if_neg h, if_neg h]
    by_cases h2 : (z : Int) - a - (rh s).1.size < (rh s).1.len
    · rw [if_pos h2, if_pos (show ((z - a : Nat) : Int) - (rh s).1.size < (rh s).1.len from by omega)]
      simp only []
      rw [if_pos (by decide)]
      congr 2
      omega
    · rw [if_neg h2, if_neg (show ¬ ((z - a : Nat) : Int) - (rh s).1.size < (rh s).1.len from by omega)]
      simp only []
      rw [if_neg (by decide)]
/-- an element, written and read in its place -/
theorem elV_enc {l more k : List UInt8} {a z : Nat} {c n : Int} {b : Bool} (ha : a ≤ z) (hz : z ≤ l.length) (h : encCode c n k.length = 0) (e : (l.drop a).take (z - a) = encL c b n k ++ more) :
    elV l a z = (⟨c, n, b, a, ((a + 1 + (lenL k.length).length : Nat) : Int), ((a + (encL c b n k).length : Nat) : Int)⟩, 0, 0) := by
  rw [elV_nx ha hz, e, nx_enc h, enc_len h]
  simp only []
  rw [if_neg (by simp)]
  congr 2
  · omega
  · omega
/-- read and written -/
theorem elV_back {l : List UInt8} {a z : Nat} {x : El} (ha : a ≤ z) (hz : z ≤ l.length) (e : elV l a z = (x, 0, 0)) :
    encCode x.cls x.num (conX l x).length = 0 ∧ (l.drop a).take (z - a) = encL x.cls x.cons x.num (conX l x) ++ (l.drop x.stop.toNat).take (z - x.stop.toNat) := by
  rw [elV_nx ha hz] at e
  have hs : ((l.drop a).take (z - a)).length = z - a := by rw [List.length_take, List.length_drop]; omega
  by_cases h : (nx ((l.drop a).take (z - a))).code ≠ 0
  · rw [if_pos h] at e
    injection e with _ e2
    injection e2 with e2
    exact absurd e2 h
  · rw [if_neg h] at e
    injection e with e1
    obtain ⟨b1, b2, b3, b4, b5⟩ := nx_back (by omega : (nx ((l.drop a).take (z - a))).code = 0)
    have hln := congrArg List.length b2
    rw [List.length_append, enc_len b1, hs] at hln
    generalize hN : nx ((l.drop a).take (z - a)) = N at *
    obtain ⟨s, hsz⟩ : ∃ s : Nat, N.hd.size = (s : Int) := ⟨1 + (lenL N.con.length).length, by rw [b5]; omega⟩
    have hst : x.stop.toNat = a + s + N.con.length := by rw [← e1, hsz, b4]; simp only []; omega
    have hbo : x.body.toNat = a + s := by rw [← e1, hsz]; simp only []; omega
    have hs2 : s = 1 + (lenL N.con.length).length := by omega
    -- the pieces of the part, by places
    have hd : ∀ j, j ≤ z - a → ((l.drop a).take (z - a)).drop j = (l.drop (a + j)).take (z - (a + j)) := fun j hj => by
      rw [List.drop_take, List.drop_drop]; congr 1; omega
    have hr : N.rest = (l.drop x.stop.toNat).take (z - x.stop.toNat) := by
      have := congrArg (List.drop (encL N.hd.cls N.hd.cons N.hd.num N.con).length) b2
      rw [List.drop_left' rfl, hd _ (by rw [enc_len b1]; omega)] at this
      rw [this, hst, enc_len b1, ← hs2, Nat.add_assoc]
    have hk : conX l x = N.con := by
      unfold conX
      rw [hbo, hst, show a + s + N.con.length - (a + s) = N.con.length from by omega]
      obtain ⟨i1, i2⟩ := encCode_ok b1
      have h3 : ((l.drop a).take (z - a)).drop s = N.con ++ N.rest := by
        rw [← b2, (enc_ok _ _ i1 i2).1, hs2, Nat.add_comm 1, List.cons_append, List.drop_succ_cons, List.append_assoc, List.drop_left' rfl]
      rw [hd s (by omega)] at h3
      have h4 := congrArg (List.take N.con.length) h3
      rw [List.take_left' rfl, List.take_take, Nat.min_eq_left (by omega)] at h4
      exact h4
    rw [hk, ← hr, ← b2, ← e1]
    exact ⟨b1, rfl⟩
/-- what an element is: its tag and contents; such elements' encodings, one behind the other -/
abbrev Sh := Int × Int × Bool × List UInt8
def shX (l : List UInt8) (x : El) : Sh := (x.cls, x.num, x.cons, conX l x)
def encS (q : Sh) : List UInt8 := encL q.1 q.2.2.1 q.2.1 q.2.2.2
def codS (q : Sh) : Prop := encCode q.1 q.2.1 q.2.2.2.length = 0
def catS : List Sh → List UInt8
  | [] => []
  | q :: ps => encS q ++ catS ps
theorem encS_pos {q : Sh} (h : codS q) : 2 ≤ (encS q).length := by
  unfold encS
  have := (rl_len (encCode_ok h).2 []).2.1
  rw [enc_len h]
  omega
theorem part_nil {l : List UInt8} {p z : Nat} (hp : p ≤ z) (hz : z ≤ l.length) (h : (l.drop p).take (z - p) = []) : p = z := by
  have := congrArg List.length h
  rw [List.length_take, List.length_drop, List.length_nil] at this
  omega
theorem elsA_enc {l : List UInt8} {z : Nat} (hz : z ≤ l.length) : ∀ (ps : List Sh) (p f : Nat) (acc : List El), p ≤ z → z - p < f → (l.drop p).take (z - p) = catS ps → (∀ q, q ∈ ps → codS q) →
    ∃ els, elsA l z f p acc = (acc ++ els, 0, 0) ∧ els.map (shX l) = ps := by
  intro ps
  induction ps with
  | nil =>
    intro p f acc hp hf e _
    have := part_nil hp hz e
    exact ⟨[], by rw [elsA_end _ _ _ _ _ (by omega)]; simp, rfl⟩
  | cons q ps ih =>
    intro p f acc hp hf e hq
    have hc := hq q (by simp)
    have hpos := encS_pos hc
    have hlen := congrArg List.length e
    rw [List.length_take, List.length_drop] at hlen
    simp only [catS, List.length_append] at hlen
    obtain ⟨f', rfl⟩ : ∃ f', f = f' + 1 := ⟨f - 1, by omega⟩
    have hv := elV_enc hp hz hc (more := catS ps) e
    have hb := elV_back hp hz hv
    have hst : (elV l p z).1.stop.toNat = p + (encS q).length := by rw [hv]; simp only [Int.toNat_natCast]; rfl
    have hd : (l.drop (p + (encS q).length)).take (z - (p + (encS q).length)) = catS ps := by
      have h3 := congrArg (List.drop (encS q).length) e
      rw [show catS (q :: ps) = encS q ++ catS ps from rfl, List.drop_left' rfl, List.drop_take, List.drop_drop] at h3
      rw [← h3]
      congr 1
      omega
    obtain ⟨els, e1, e2⟩ := ih (p + (encS q).length) f' (acc ++ [(elV l p z).1]) (by omega) (by omega) hd (fun r hr => hq r (by simp [hr]))
    refine ⟨(elV l p z).1 :: els, ?_, ?_⟩
    · rw [elsA_step (by omega) (by rw [hv]), hst, e1]; simp
    · rw [List.map_cons, e2]
      congr 1
      obtain ⟨_, h2⟩ := hb
      rw [hv]
      simp only [] at h2 ⊢
      rw [e] at h2
      simp only [Int.toNat_natCast] at h2
      rw [show encL q.1 q.2.2.1 q.2.1 q.2.2.2 = encS q from rfl, hd, show catS (q :: ps) = encS q ++ catS ps from rfl] at h2
      have h4 := List.append_cancel_right h2
      have h5 := (enc_prefix hc (elV_back hp hz hv).1 (r := []) (by rw [List.append_nil]; exact h4.symm)).2.2.2
      unfold shX
      simp only []
      rw [← h5]
theorem row_back {l : List UInt8} {z : Nat} (hz : z ≤ l.length) (hl : l.length ≤ 140737488355328) : ∀ (els : List El) (p : Nat), p ≤ z → Row l z p els → (l.drop p).take (z - p) = catS (els.map (shX l)) ∧ ∀ q, q ∈ els.map (shX l) → codS q := by
  intro els
  induction els with
  | nil =>
    intro p hp h
    have : p = z := h
    subst this
    simp [catS]
  | cons x xs ih =>
    intro p hp h
    obtain ⟨h1, h2, h3⟩ := h
    have hb := (elV_bd (l := l) (a := p) (z := z) hp hz hl).2 (by rw [h2])
    rw [h2] at hb
    simp only [] at hb
    obtain ⟨c1, c2⟩ := elV_back hp hz h2
    obtain ⟨i1, i2⟩ := ih x.stop.toNat (by omega) h3
    rw [i1] at c2
    refine ⟨c2, fun q hq => ?_⟩
    rw [List.map_cons, List.mem_cons] at hq
    rcases hq with rfl | hq
    · exact c1
    · exact i2 q hq
/-- a SEQUENCE of elements is read as these -/
theorem parts_fwd {ps : List Sh} (hps : ∀ q, q ∈ ps → codS q) (hc : encCode 0 16 (catS ps).length = 0) (hl : (catS ps).length ≤ 1000000) :
    ∃ els, partsV (encL 0 true 16 (catS ps)) 0 16 = (els, 0, 0) ∧ els.map (shX (encL 0 true 16 (catS ps))) = ps := by
  have ho := one_enc (b := true) hc
  have hb := one_ok (l := encL 0 true 16 (catS ps)) (by rw [ho])
  have hn := nx_enc (b := true) hc []
  rw [List.append_nil] at hn
  have el := enc_len (b := true) hc
  obtain ⟨_, _, _, _, _, h6, h7⟩ := hb
  rw [hn] at h6 h7
  simp only [] at h6 h7
  rw [partsV_ok (by rw [ho]; simp) (by rw [ho]; simp), ho]
  simp only []
  have e1 : (1 + ((lenL ((catS ps).length : Int)).length : Int)).toNat = 1 + (lenL ((catS ps).length : Int)).length := by omega
  rw [e1, Int.toNat_natCast]
  have := elsA_enc (l := encL 0 true 16 (catS ps)) (z := (encL 0 true 16 (catS ps)).length) (Nat.le_refl _) ps (1 + (lenL ((catS ps).length : Int)).length) ((encL 0 true 16 (catS ps)).length - (1 + (lenL ((catS ps).length : Int)).length) + 1) [] (by omega) (by omega) (by rw [h6, List.take_of_length_le (by omega)]) hps
  simpa [listV] using this
theorem parts_bwd {l : List UInt8} {els : List El} {r2 : Int} (hl : l.length ≤ 1000000) (h : partsV l 0 16 = (els, 0, r2)) :
    r2 = 0 ∧ l = encL 0 true 16 (catS (els.map (shX l))) ∧ (∀ q, q ∈ els.map (shX l) → codS q) ∧ ∀ x, x ∈ els → 0 ≤ x.start ∧ 0 ≤ x.body ∧ x.body ≤ x.stop ∧ x.stop ≤ l.length ∧ x.start ≤ l.length := by
  by_cases h1 : (oneV l).2.1 ≠ 0
  · rw [partsV_err h1] at h
    injection h with _ h2
    injection h2 with h2
    exact absurd h2 h1
  · by_cases h2 : ((oneV l).1.cls = 0 ∧ (oneV l).1.cons = true) ∧ (oneV l).1.num = 16
    · rw [partsV_ok h1 h2] at h
      obtain ⟨d1, d2, d3, d4, d5⟩ := one_bd (by omega : (oneV l).2.1 = 0)
      obtain ⟨k1, k2, k3, k4, k5, k6, k7⟩ := one_ok (by omega : (oneV l).2.1 = 0)
      obtain ⟨bt, hbt⟩ : ∃ b, (oneV l).1.body.toNat = b := ⟨_, rfl⟩
      obtain ⟨st, hst⟩ : ∃ b, (oneV l).1.stop.toNat = b := ⟨_, rfl⟩
      have hbd := (listV_bd (l := l) (a := (oneV l).1.body.toNat) (z := (oneV l).1.stop.toNat) (by omega) (by omega) (by omega)).1 (by rw [h])
      rw [h] at hbd
      simp only [] at hbd
      have hrow := row_back (z := (oneV l).1.stop.toNat) (by omega) (by omega) els _ (by omega) hbd.2
      have hco : (l.drop (oneV l).1.body.toNat).take ((oneV l).1.stop.toNat - (oneV l).1.body.toNat) = (nx l).con := by
        rw [k5]
        simp only [Int.toNat_natCast]
        rw [k6, List.take_of_length_le (by omega)]
      rw [hco] at hrow
      refine ⟨hbd.1, ?_, hrow.2, fun x hx => ?_⟩
      · rw [← hrow.1]
        rw [k5] at h2
        simp only [] at h2
        rw [← h2.1.1, ← h2.1.2, ← h2.2, k4]
      · have := Row.bd (by omega) (by omega) (by omega) hbd.2 x hx
        omega
    · rw [partsV_tag h1 h2] at h
      injection h with _ h2
      injection h2 with h2
      exact absurd h2 (by decide)
end Go.Proofs.Ytnpmgofkfdpbjaa.Tlv
