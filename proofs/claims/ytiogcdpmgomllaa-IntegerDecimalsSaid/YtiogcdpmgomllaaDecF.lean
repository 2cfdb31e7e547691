/- Walks: ParseDecimal of the reference. Printed by gen_decf.py. -/
import Derived.Test.YtiogcdpmgomllaaDecE
import Derived.Test.YtiogcdpmgomllaaDecD
import Derived.Test.YtiogcdpmgomllaaPlDecC
set_option linter.unusedSimpArgs false
set_option linter.unusedVariables false
namespace Go.Proofs.Ytiogcdpmgomllaa.Int4
open Go.RowKit Kit Tlv Cur

/-- what ParseDecimal of the reference returns -/
def ParP (L : Nat) (w : World) (s : List UInt8) (e : Ending) (w' : World) : Prop :=
  ∃ (u : List UInt8) (k : Int) (A : Option Addr) (c : Nat), e = .returned (.tuple #[.slice A u.length c, .int .i64 k]) ∧ Rd w' w'.heap.size A u.length u ∧ u.length ≤ c ∧ c ≤ maxLen ∧ Below w.heap.size w w' ∧ u.length ≤ L ∧ ParS s u k
theorem ParP.none_ {L : Nat} {w w' : World} {s : List UInt8} (h : ParS s [] 11) (hb : Below w.heap.size w w')   : ParP L w s (.returned (.tuple #[.slice none 0 0, .int .i64 11])) w' :=
  ⟨[], 11, none, 0, rfl, Rd.nil_, Nat.le_refl _, Nat.zero_le _, hb, Nat.zero_le _, h⟩
theorem all_no {s : List UInt8} {k : Nat} {x : UInt8} (h : s[k]? = some x) (hx : isD x = false) : s.all isD = false := by
  rw [List.all_eq_false]
  have hk : k < s.length := by
    rcases Nat.lt_or_ge k s.length with g | g
    · exact g
    · rw [List.getElem?_eq_none g] at h; cases h
  rw [List.getElem?_eq_getElem hk] at h
  injection h with h
  exact ⟨s[k], List.getElem_mem hk, by rw [h, hx]; simp⟩
theorem isD_yes {x : UInt8} (h : ¬ (x.toNat : Int) < 48) (h2 : ¬ (57 : Int) < (x.toNat : Int)) : isD x = true := by
  simp only [isD, Bool.and_eq_true, decide_eq_true_eq]; omega
theorem isD_no {x : UInt8} (h : (x.toNat : Int) < 48 ∨ (57 : Int) < (x.toNat : Int)) : isD x = false := by
  simp only [isD, Bool.and_eq_false_iff, decide_eq_false_iff_not]; omega
/-- where the loop over the characters stands -/
def PdL (w : World) (q : List UInt8) (p : Nat) (t i : Value) (wr : World) : Prop :=
  ∃ (k : Nat) (l : List UInt8) (A : Option Addr) (c : Nat), t = .slice A l.length c ∧ i = .int .i64 ((p + k : Nat) : Int) ∧ k ≤ q.length ∧ Rd wr wr.heap.size A l.length l ∧ l.length ≤ c ∧ c ≤ maxLen ∧ 1 ≤ l.length ∧ l.length ≤ 1 + 10 * k ∧
    Below w.heap.size w wr ∧ (q.take k).all isD = true ∧ beI l = ((decV (q.take k) : Nat) : Int)
/-- where the loop of the nine sums stands -/
def SuL (w0 : World) (v : Int) (m : Nat) (t i : Value) (wr : World) : Prop :=
  ∃ (j : Nat) (l : List UInt8) (A : Option Addr) (c : Nat), t = .slice A l.length c ∧ i = .int .i64 (j : Int) ∧ 1 ≤ j ∧ j ≤ 10 ∧ Rd wr wr.heap.size A l.length l ∧ m ≤ l.length ∧ l.length + 1 ≤ m + j ∧
    Below w0.heap.size w0 wr ∧ beI l = (j : Int) * v

set_option maxRecDepth 100000 in
set_option maxHeartbeats 8000000 in
theorem refpar_plain (S : ByteArray) (w : World) (hs : S.size ≤ 100) (hS : hasS S.data.toList = false) :
    Calls Try.prog 7 #[.string S] w (ParP 1999 w S.data.toList) := by
  have hsz : S.data.toList.length = S.size := Array.length_toList
  obtain ⟨q, hq⟩ : ∃ q, numS S.data.toList = q := ⟨_, rfl⟩
  have hqd : q = S.data.toList.drop 0 := by rw [← hq]; unfold numS; rw [hS]; simp
  have hql : q.length + 0 = S.size := by
    rw [hqd, List.length_drop, hsz]
    skip
    skip
    omega
  have QX := Lib.hid (fun (k : Nat) (hk : 0 + k < S.size) => show q[k]? = some (S[0 + k]'hk) from by
    rw [hqd, List.getElem?_drop]
    rw [List.getElem?_eq_getElem (by rw [hsz]; exact hk)]
    rfl)
  have NO := Lib.hid (fun (k : Nat) (x : UInt8) (h : q[k]? = some x) (hx : isD x = false) => ParS.bad (s := S.data.toList) (by rw [hq]; exact all_no h hx))
  have L0 := lit1' (base := w.heap.size) w 0 (by omega) (by omega) (Nat.le_refl _)
  have ST := Lib.hid (show PdL w q 0 (.slice (some ⟨w.heap.size, 0, none⟩) 1 1) (.int .i64 0) (w.alloc (.cells #[.int .u8 0] 5)) from
    ⟨0, [ofI 0], _, _, rfl, rfl, Nat.zero_le _, L0.rd, Nat.le_refl _, by unfold maxLen; omega, Nat.le_refl _, Nat.le_refl _, (Below.refl _ _).alloc (Nat.le_refl _) _, by simp, by rfl⟩)
  clear L0
  have hgd : ∀ h : 0 < S.size, ((S[0].toNat : Int) == 45) = false := by
    intro h
    rw [beq_eq_false_iff_ne]
    intro e
    have h1 : S.data.toList = S[0] :: S.data.toList.drop 1 := by
      have := List.drop_eq_getElem_cons (l := S.data.toList) (i := 0) (by rw [hsz]; exact h)
      rw [List.drop_zero] at this
      exact this
    rw [h1] at hS
    simp only [hasS, decide_eq_false_iff_not] at hS
    omega
  by_cases h0 : 0 < S.size
  · have h0z : (0 : Int) < (S.size : Int) := by omega
    go_enter Try.func7, Try.ntmps7
    go_wp2
    go_loopw [5, 6] (fun t i wr => PdL w q 0 t i wr) (fun _ i _ => S.size - (intOf i).toNat)
    case atStart => exact ST.out
    case round =>
      obtain ⟨k, l, A, c, rfl, rfl, hk, hr, hc, hm, h1, h2, hbe, hall, hv⟩ := hrel
      rename World => w5
      clear ST
      by_cases hlt : 0 + k < S.size
      · have hkz : ((0 + k : Nat) : Int) < (S.size : Int) := by omega
        have hqx := QX.out k hlt
        obtain ⟨x, hx⟩ : ∃ x, S[0 + k]'hlt = x := ⟨_, rfl⟩
        rw [hx] at hqx
        have hxi : S[k]'(by omega) = x := by first | exact hx | (rw [← hx]; congr 1; omega)
        have BE := Lib.hid hbe
        clear hbe
        by_cases hlo : (x.toNat : Int) < 48
        · have FIN := Lib.hid (ParP.none_ (L := 1999) (NO.out k x hqx (isD_no (.inl hlo))) BE.out)
          clear hr hall hv QX NO hqx
          go_wp2
          go_ret2
          exact FIN.out
        · by_cases hhi : (57 : Int) < (x.toNat : Int)
          · have FIN := Lib.hid (ParP.none_ (L := 1999) (NO.out k x hqx (isD_no (.inr hhi))) BE.out)
            clear hr hall hv QX NO hqx
            go_wp2
            go_ret2
            exact FIN.out
          · have hdg := isD_yes hlo hhi
            have hkl : k < q.length := by omega
            have hqk : q[k] = x := by
              rw [List.getElem?_eq_getElem hkl] at hqx
              injection hqx
            have ALL := Lib.hid (show (q.take (k + 1)).all isD = true from by
              rw [List.take_succ_eq_append_getElem hkl, List.all_append, hall, hqk]
              simp [hdg])
            have DV := Lib.hid (show ((decV (q.take (k + 1)) : Nat) : Int) = 10 * beI l + ((x.toNat : Int) - 48) from by
              rw [decV_take hkl, hqk, hv]; omega)
            have HR := Lib.hid hr
            have S0 := Lib.hid (show SuL w5 (beI l) l.length (.slice A l.length c) (.int .i64 1) w5 from ⟨1, l, A, c, rfl, rfl, Nat.le_refl _, by omega, hr, Nat.le_refl _, Nat.le_refl _, Below.refl _ _, by omega⟩)
            clear hr hall hv QX NO hqx hdg hqk
            go_wp2
            go_loopw [7, 8] (fun t i wr => SuL w5 (beI l) l.length t i wr) (fun _ i _ => 10 - (intOf i).toNat)
            case atStart => exact S0.out
            case round =>
              obtain ⟨j, t, A', c', rfl, rfl, j1, j2, hrt, ht1, ht2, hbt, hvt⟩ := hrel
              rename World => w6
              clear S0
              have BT := Lib.hid hbt
              by_cases hj : j < 10
              · have hjz : (j : Int) < 10 := by omega
                have SU := Lib.hid (sum_any (c := c') (c2 := c) w6 hrt ((HR.out.past hbt)) (Nat.le_refl _) (by omega) h1 ht1)
                have VT := Lib.hid hvt
                clear hrt hbt hvt
                go_wp2_with fail
                go_must (go_fit SU.out)
                rintro e w7 ⟨u, A7, c7, rfl, hr7, -, -, hb7, hv7, hu1, hu2⟩
                have RL := Lib.hid (show SuL w5 (beI l) l.length (.slice A7 u.length c7) (.int .i64 ((j : Int) + 1)) w7 from
                  ⟨j + 1, u, A7, c7, rfl, by rw [Int.natCast_add]; rfl, by omega, by omega, hr7, hu1, by omega, two_belowK BT.out hb7 BT.out.size, by rw [hv7, VT.out, Int.natCast_add, Int.add_mul]; omega⟩)
                clear SU hr7 hb7 hv7
                go_wp2
                go_roundw
                case rel => exact RL.out
                case measure => simp [intOf]; omega
              · obtain rfl : 10 = j := by omega
                have PL := Lib.hid (plus_any (c := c') ((x.toNat : Int) - 48) w6 hrt (Nat.le_refl _) (by omega) (by omega) (by omega) (by omega))
                have VT := Lib.hid hvt
                clear hrt hbt hvt
                go_wp2_with fail
                go_must (go_fit PL.out)
                rintro e w7 ⟨u, A7, c7, rfl, ho7, hb7, hv7, hu1, hu2⟩
                have RL := Lib.hid (fun (z : Int) (hz : z = ((0 + (k + 1) : Nat) : Int)) => show PdL w q 0 (.slice A7 u.length c7) (.int .i64 z) w7 from
                  ⟨k + 1, u, A7, c7, rfl, by rw [hz], by omega, ho7.rd, ho7.cap, ho7.capMax, by omega, by omega, two_belowK BE.out (two_belowK BT.out hb7 BT.out.size) BE.out.size, ALL.out, by rw [DV.out, hv7, VT.out]; omega⟩)
                clear PL ho7 hb7 hv7
                go_wp2
                go_roundw
                case rel => exact RL.out _ (by omega)
                case measure => simp [intOf]; omega
      · obtain rfl : q.length = k := by omega
        rw [List.take_length] at hall hv
        have BE := Lib.hid hbe
        have FU := Lib.hid (reffromunsS_any (c := c) w5 hr (Nat.le_refl _) (by omega))
        obtain ⟨uv, us, ul, up⟩ := uns_ok l
        have un := uns_pos l
        have hsv : sv (unsL l) = beI (unsL l) := sv_pos un
        have VU := Lib.hid uv
        have PN := Lib.hid (fun (h : decI (unsL l) ≠ S.data.toList) => ParS.no uv (by rw [us, hv, valS, hS, hq]; rfl) h)
        generalize unsL l = u at *
        clear hr hbe hall hv QX NO hsv us uv un
        go_wp2_with fail
        go_must (go_fit FU.out)
        rintro e wU ⟨gU, oU, cU, rfl, hsg, hcu, hmu, hb6⟩
        have BU := Lib.hid (two_belowK BE.out hb6 BE.out.size)
        have RU := Lib.hid hsg.rd
        have CU := Lib.hid (And.intro hcu hmu)
        have LU := Lib.hid (show u.length ≤ 1999 from by omega)
        obtain ⟨AU, hAU⟩ : ∃ AU : Option Addr, some (⟨gU, oU, none⟩ : Addr) = AU := ⟨_, rfl⟩
        rw [hAU] at RU ⊢
        clear FU hsg hcu hmu hb6 BE hAU
        have DE := Lib.hid (refdecimal_any (c := cU) wU RU.out (Nat.le_refl _) LU.out)
        have PY := Lib.hid (fun (h : decI u = S.data.toList) => ParS.yes VU.out h)
        clear VU
        go_wp2_with fail
        go_must (go_fit DE.out)
        rintro e w9 ⟨rfl, hb9⟩
        have BE9 := Lib.hid (two_belowK BU.out hb9 BU.out.size)
        have R9 := Lib.hid (RU.out.past hb9)
        by_cases hd : (⟨(decI u).toArray⟩ : ByteArray) = S
        · have FIN := Lib.hid (show ParP 1999 w S.data.toList (.returned (.tuple #[.slice AU u.length cU, .int .i64 0])) w9 from ⟨u, 0, AU, cU, rfl, R9.out, CU.out.1, CU.out.2, BE9.out, LU.out, PY.out (str_data.1 hd)⟩)
          clear DE R9 BE9 PY PN hb9 RU BU CU LU
          rw [hd]
          go_wp2
          go_ret2
          exact FIN.out
        · have FIN := Lib.hid (ParP.none_ (L := 1999) (PN.out (fun h => hd (str_data.2 h))) BE9.out)
          have hne := str_ne hd
          generalize (⟨(decI u).toArray⟩ : ByteArray) = D at *
          clear DE R9 BE9 PY PN hb9 RU BU CU LU
          go_wp2
          go_ret2
          exact FIN.out

  · have h0z : ¬ (0 : Int) < (S.size : Int) := by omega
    go_enter Try.func7, Try.ntmps7
    go_wp2
    go_loopw [5, 6] (fun t i wr => PdL w q 0 t i wr) (fun _ i _ => S.size - (intOf i).toNat)
    case atStart => exact ST.out
    case round =>
      obtain ⟨k, l, A, c, rfl, rfl, hk, hr, hc, hm, h1, h2, hbe, hall, hv⟩ := hrel
      rename World => w5
      clear ST
      by_cases hlt : 0 + k < S.size
      · exfalso; omega
      · obtain rfl : q.length = k := by omega
        rw [List.take_length] at hall hv
        have BE := Lib.hid hbe
        have FU := Lib.hid (reffromunsS_any (c := c) w5 hr (Nat.le_refl _) (by omega))
        obtain ⟨uv, us, ul, up⟩ := uns_ok l
        have un := uns_pos l
        have hsv : sv (unsL l) = beI (unsL l) := sv_pos un
        have VU := Lib.hid uv
        have PN := Lib.hid (fun (h : decI (unsL l) ≠ S.data.toList) => ParS.no uv (by rw [us, hv, valS, hS, hq]; rfl) h)
        generalize unsL l = u at *
        clear hr hbe hall hv QX NO hsv us uv un
        go_wp2_with fail
        go_must (go_fit FU.out)
        rintro e wU ⟨gU, oU, cU, rfl, hsg, hcu, hmu, hb6⟩
        have BU := Lib.hid (two_belowK BE.out hb6 BE.out.size)
        have RU := Lib.hid hsg.rd
        have CU := Lib.hid (And.intro hcu hmu)
        have LU := Lib.hid (show u.length ≤ 1999 from by omega)
        obtain ⟨AU, hAU⟩ : ∃ AU : Option Addr, some (⟨gU, oU, none⟩ : Addr) = AU := ⟨_, rfl⟩
        rw [hAU] at RU ⊢
        clear FU hsg hcu hmu hb6 BE hAU
        have DE := Lib.hid (refdecimal_any (c := cU) wU RU.out (Nat.le_refl _) LU.out)
        have PY := Lib.hid (fun (h : decI u = S.data.toList) => ParS.yes VU.out h)
        clear VU
        go_wp2_with fail
        go_must (go_fit DE.out)
        rintro e w9 ⟨rfl, hb9⟩
        have BE9 := Lib.hid (two_belowK BU.out hb9 BU.out.size)
        have R9 := Lib.hid (RU.out.past hb9)
        by_cases hd : (⟨(decI u).toArray⟩ : ByteArray) = S
        · have FIN := Lib.hid (show ParP 1999 w S.data.toList (.returned (.tuple #[.slice AU u.length cU, .int .i64 0])) w9 from ⟨u, 0, AU, cU, rfl, R9.out, CU.out.1, CU.out.2, BE9.out, LU.out, PY.out (str_data.1 hd)⟩)
          clear DE R9 BE9 PY PN hb9 RU BU CU LU
          rw [hd]
          go_wp2
          go_ret2
          exact FIN.out
        · have FIN := Lib.hid (ParP.none_ (L := 1999) (PN.out (fun h => hd (str_data.2 h))) BE9.out)
          have hne := str_ne hd
          generalize (⟨(decI u).toArray⟩ : ByteArray) = D at *
          clear DE R9 BE9 PY PN hb9 RU BU CU LU
          go_wp2
          go_ret2
          exact FIN.out


set_option maxRecDepth 100000 in
set_option maxHeartbeats 8000000 in
theorem refpar_sign (S : ByteArray) (w : World) (hs : S.size ≤ 100) (hS : hasS S.data.toList = true) :
    Calls Try.prog 7 #[.string S] w (ParP 1999 w S.data.toList) := by
  have hsz : S.data.toList.length = S.size := Array.length_toList
  obtain ⟨q, hq⟩ : ∃ q, numS S.data.toList = q := ⟨_, rfl⟩
  have hqd : q = S.data.toList.drop 1 := by rw [← hq]; unfold numS; rw [hS]; rfl
  have hql : q.length + 1 = S.size := by
    rw [hqd, List.length_drop, hsz]
    have : S.data.toList ≠ [] := by intro h; rw [h] at hS; cases hS
    have := List.length_pos_iff.2 this
    omega
  have QX := Lib.hid (fun (k : Nat) (hk : 1 + k < S.size) => show q[k]? = some (S[1 + k]'hk) from by
    rw [hqd, List.getElem?_drop]
    rw [List.getElem?_eq_getElem (by rw [hsz]; exact hk)]
    rfl)
  have NO := Lib.hid (fun (k : Nat) (x : UInt8) (h : q[k]? = some x) (hx : isD x = false) => ParS.bad (s := S.data.toList) (by rw [hq]; exact all_no h hx))
  have L0 := lit1' (base := w.heap.size) w 0 (by omega) (by omega) (Nat.le_refl _)
  have ST := Lib.hid (show PdL w q 1 (.slice (some ⟨w.heap.size, 0, none⟩) 1 1) (.int .i64 1) (w.alloc (.cells #[.int .u8 0] 5)) from
    ⟨0, [ofI 0], _, _, rfl, rfl, Nat.zero_le _, L0.rd, Nat.le_refl _, by unfold maxLen; omega, Nat.le_refl _, Nat.le_refl _, (Below.refl _ _).alloc (Nat.le_refl _) _, by simp, by rfl⟩)
  clear L0
  have hS0 : 0 < S.size := by
    rcases Nat.eq_zero_or_pos S.size with h | h
    · exfalso
      rw [show S.data.toList = [] from List.eq_nil_of_length_eq_zero (by rw [hsz]; exact h)] at hS
      cases hS
    · exact h
  have hb0 : ((S[0].toNat : Int) == 45) = true := by
    have h1 : S.data.toList = S[0] :: S.data.toList.drop 1 := by
      have := List.drop_eq_getElem_cons (l := S.data.toList) (i := 0) (by rw [hsz]; exact hS0)
      rw [List.drop_zero] at this
      exact this
    have hS' := hS
    rw [h1] at hS'
    simp only [hasS, decide_eq_true_eq] at hS'
    rw [beq_iff_eq]
    omega
  have h0z : (0 : Int) < (S.size : Int) := by omega
  go_enter Try.func7, Try.ntmps7
  go_wp2
  go_loopw [5, 6] (fun t i wr => PdL w q 1 t i wr) (fun _ i _ => S.size - (intOf i).toNat)
  case atStart => exact ST.out
  case round =>
    obtain ⟨k, l, A, c, rfl, rfl, hk, hr, hc, hm, h1, h2, hbe, hall, hv⟩ := hrel
    rename World => w5
    clear ST
    by_cases hlt : 1 + k < S.size
    · have hkz : ((1 + k : Nat) : Int) < (S.size : Int) := by omega
      have hqx := QX.out k hlt
      obtain ⟨x, hx⟩ : ∃ x, S[1 + k]'hlt = x := ⟨_, rfl⟩
      rw [hx] at hqx
      have hxi : S[1 + k]'(by omega) = x := by first | exact hx | (rw [← hx]; congr 1; omega)
      have BE := Lib.hid hbe
      clear hbe
      by_cases hlo : (x.toNat : Int) < 48
      · have FIN := Lib.hid (ParP.none_ (L := 1999) (NO.out k x hqx (isD_no (.inl hlo))) BE.out)
        clear hr hall hv QX NO hqx
        go_wp2
        go_ret2
        exact FIN.out
      · by_cases hhi : (57 : Int) < (x.toNat : Int)
        · have FIN := Lib.hid (ParP.none_ (L := 1999) (NO.out k x hqx (isD_no (.inr hhi))) BE.out)
          clear hr hall hv QX NO hqx
          go_wp2
          go_ret2
          exact FIN.out
        · have hdg := isD_yes hlo hhi
          have hkl : k < q.length := by omega
          have hqk : q[k] = x := by
            rw [List.getElem?_eq_getElem hkl] at hqx
            injection hqx
          have ALL := Lib.hid (show (q.take (k + 1)).all isD = true from by
            rw [List.take_succ_eq_append_getElem hkl, List.all_append, hall, hqk]
            simp [hdg])
          have DV := Lib.hid (show ((decV (q.take (k + 1)) : Nat) : Int) = 10 * beI l + ((x.toNat : Int) - 48) from by
            rw [decV_take hkl, hqk, hv]; omega)
          have HR := Lib.hid hr
          have S0 := Lib.hid (show SuL w5 (beI l) l.length (.slice A l.length c) (.int .i64 1) w5 from ⟨1, l, A, c, rfl, rfl, Nat.le_refl _, by omega, hr, Nat.le_refl _, Nat.le_refl _, Below.refl _ _, by omega⟩)
          clear hr hall hv QX NO hqx hdg hqk
          go_wp2
          go_loopw [7, 8] (fun t i wr => SuL w5 (beI l) l.length t i wr) (fun _ i _ => 10 - (intOf i).toNat)
          case atStart => exact S0.out
          case round =>
            obtain ⟨j, t, A', c', rfl, rfl, j1, j2, hrt, ht1, ht2, hbt, hvt⟩ := hrel
            rename World => w6
            clear S0
            have BT := Lib.hid hbt
            by_cases hj : j < 10
            · have hjz : (j : Int) < 10 := by omega
              have SU := Lib.hid (sum_any (c := c') (c2 := c) w6 hrt ((HR.out.past hbt)) (Nat.le_refl _) (by omega) h1 ht1)
              have VT := Lib.hid hvt
              clear hrt hbt hvt
              go_wp2_with fail
              go_must (go_fit SU.out)
              rintro e w7 ⟨u, A7, c7, rfl, hr7, -, -, hb7, hv7, hu1, hu2⟩
              have RL := Lib.hid (show SuL w5 (beI l) l.length (.slice A7 u.length c7) (.int .i64 ((j : Int) + 1)) w7 from
                ⟨j + 1, u, A7, c7, rfl, by rw [Int.natCast_add]; rfl, by omega, by omega, hr7, hu1, by omega, two_belowK BT.out hb7 BT.out.size, by rw [hv7, VT.out, Int.natCast_add, Int.add_mul]; omega⟩)
              clear SU hr7 hb7 hv7
              go_wp2
              go_roundw
              case rel => exact RL.out
              case measure => simp [intOf]; omega
            · obtain rfl : 10 = j := by omega
              have PL := Lib.hid (plus_any (c := c') ((x.toNat : Int) - 48) w6 hrt (Nat.le_refl _) (by omega) (by omega) (by omega) (by omega))
              have VT := Lib.hid hvt
              clear hrt hbt hvt
              go_wp2_with fail
              go_must (go_fit PL.out)
              rintro e w7 ⟨u, A7, c7, rfl, ho7, hb7, hv7, hu1, hu2⟩
              have RL := Lib.hid (fun (z : Int) (hz : z = ((1 + (k + 1) : Nat) : Int)) => show PdL w q 1 (.slice A7 u.length c7) (.int .i64 z) w7 from
                ⟨k + 1, u, A7, c7, rfl, by rw [hz], by omega, ho7.rd, ho7.cap, ho7.capMax, by omega, by omega, two_belowK BE.out (two_belowK BT.out hb7 BT.out.size) BE.out.size, ALL.out, by rw [DV.out, hv7, VT.out]; omega⟩)
              clear PL ho7 hb7 hv7
              go_wp2
              go_roundw
              case rel => exact RL.out _ (by omega)
              case measure => simp [intOf]; omega
    · obtain rfl : q.length = k := by omega
      rw [List.take_length] at hall hv
      have BE := Lib.hid hbe
      have FU := Lib.hid (reffromunsS_any (c := c) w5 hr (Nat.le_refl _) (by omega))
      obtain ⟨uv, us, ul, up⟩ := uns_ok l
      have un := uns_pos l
      have hsv : sv (unsL l) = beI (unsL l) := sv_pos un
      have NR := Lib.hid (fun (m v c : List UInt8) => neg_ref (u := unsL l) (m := m) (v := v) (c := c) hS up un (by rw [← hsv, us, hv, hq]))
      generalize unsL l = u at *
      clear hr hbe hall hv QX NO hsv us uv un
      go_wp2_with fail
      go_must (go_fit FU.out)
      rintro e w6 ⟨gU, oU, cU, rfl, hsg, hcu, hmu, hb6⟩
      obtain ⟨nu, hnu⟩ : ∃ nu, u.length = nu := ⟨_, rfl⟩
      rw [hnu] at hsg hcu ul up ⊢
      have BE6 := Lib.hid (two_belowK BE.out hb6 BE.out.size)
      have SG := Lib.hid (show Seg w6 w5.heap.size gU oU nu u from hsg)
      have CR := Lib.hid (ComR.start u)
      have CS := Lib.hid (fun m k (h : ComR u m k) (hk : k < nu) => h.step (by omega))
      have CE := Lib.hid (fun m (h : ComR u m nu) => ComR.stop (by rwa [← hnu] at h))
      have zz5 := BE.out.size
      clear FU hsg hb6 BE
      go_wp2
      go_loopw [10] (fun i wr => ∃ (k : Nat) (m : List UInt8), i = .int .i64 (k : Int) ∧ k ≤ nu ∧ Seg wr w5.heap.size gU oU nu m ∧ Below w.heap.size w wr ∧ Hid (ComR u m k)) (fun i _ => nu - (intOf i).toNat)
      case atStart => exact ⟨0, u, rfl, Nat.zero_le _, SG.out, BE6.out, CR⟩
      case round =>
        obtain ⟨k, m, rfl, hk, hsg, hbe, hC⟩ := hrel
        clear SG BE6 CR
        by_cases hltk : k < nu
        · have hkz : (k : Int) < (nu : Int) := by omega
          have hge := hsg.lt
          have cc := hsg.cellAt (k := k) hltk
          have ff := hsg.frozenAt (oU + k)
          have hst := Lib.hid (CS.out m k hC.out hltk)
          have hs := Lib.hid (fun x h0 h1 => hsg.stored k (x := x) h0 h1 hltk)
          have hbs := Lib.hid (fun u => Below.setCell hbe (p := ⟨gU, oU + k, none⟩) (Nat.le_trans zz5 hge.1) u)
          have b0 := bt_lo m k
          have b1 := bt_hi m k
          generalize bt m k = x at *
          clear hC hsg hbe CS CE NR
          go_wp2
          go_roundw
          case rel => exact ⟨k + 1, _, by rw [Int.natCast_add]; rfl, by omega, hs.out _ (by omega) (by omega), hbs.out _, hst⟩
          case measure => simp [intOf]; omega
        · obtain rfl : nu = k := by omega
          obtain ⟨e1, e2⟩ := CE.out m hC.out
          rename World => w7
          have PL := Lib.hid (plus_any (c := cU) 1 w7 hsg.rd (Nat.le_refl _) (by omega) (by omega) (by omega) (by omega))
          have BE7 := Lib.hid hbe
          have NR2 := Lib.hid (fun (v c : List UInt8) => NR.out m v c e1 e2)
          have hml := hsg.len
          clear hsg hbe hC CS CE NR e1 e2
          go_wp2_with fail
          go_must (go_fit PL.out)
          rintro e w8 ⟨v, A8, c8, rfl, ho8, hb8, hv8, hl1, hl2, hl3⟩
          have BE8 := Lib.hid (two_belowK BE7.out hb8 BE7.out.size)
          have TR := Lib.hid (trim_ok v (by omega))
          have NR3 := Lib.hid (fun (c : List UInt8) => NR2.out v c hv8 hl3)
          obtain ⟨g8, rfl⟩ := ho8.shape (by omega)
          have C0 := Lib.hid (show CutG w8 w7.heap.size (trimI v) g8 0 v.length c8 from ⟨_, ho8.seg, rfl, by omega, ho8.cap, ho8.capMax⟩)
          obtain ⟨t, ht0⟩ : ∃ t, trimI v = t := ⟨_, rfl⟩
          rw [ht0] at C0 TR
          obtain ⟨mv, hmv⟩ : ∃ mv, v.length = mv := ⟨_, rfl⟩
          rw [hmv] at C0 hl1 hl2 TR ⊢
          clear PL ho8 hb8 hv8 hl3 NR2 BE7 ht0
          go_wp2
          go_loop [9] (fun b => ∃ (g off m cm : Nat), b = .slice (some ⟨g, off, none⟩) m cm ∧ CutG w8 w7.heap.size t g off m cm) (fun b => match b with | .slice _ m _ => m | _ => 0)
          case atStart => exact ⟨_, _, _, _, rfl, C0.out⟩
          case round =>
            clear C0
            obtain ⟨g, off, m1, cm, rfl, l', hr, ht, h1', hc, hm⟩ := hrel
            have V := Lib.hid (refvalid_any (c := cm) w8 hr.rd (Nat.le_refl _))
            have HT := Lib.hid ht
            have hl := Lib.hid hr.len
            by_cases hgo : 1 < m1 ∧ validI l' = false
            · obtain ⟨hm1, hv⟩ := hgo
              unfold maxLen at hm
              have R' := Lib.hid (show CutG w8 w7.heap.size t g (off + 1) (m1 - 1) (cm - 1) from
                ⟨l'.drop 1, hr.drop h1', by rw [← trim_go (by rw [hl.out]; omega) hv]; exact ht, by omega, by omega, by unfold maxLen; omega⟩)
              rw [hv] at V
              have hcm : ¬ cm = 1 := by omega
              have hcm1 : (1 : Int) ≤ (cm : Int) := by omega
              have hm1' : (1 : Int) ≤ (m1 : Int) := by omega
              clear hr hv ht HT NR3 TR
              go_wp2_with (go_at_call 10; refine V.out.mono ?_; rintro e w' ⟨rfl, rfl⟩)
              go_round
              case rel => exact ⟨_, _, _, _, rfl, R'.out⟩
              case measure => show m1 - 1 < m1; omega
            · obtain rfl : l' = t := by rw [← ht]; exact (trim_stop (by rw [hl.out]; intro h; exact hgo ⟨by omega, h.2⟩)).symm
              have RU := Lib.hid hr.rd
              have VU := Lib.hid TR.out.1
              have PN := Lib.hid (fun h => NR3.out l' ⟨TR.out.1, TR.out.2.1⟩ h)
              have LU := Lib.hid (show m1 ≤ 1999 from by have := TR.out.2.2; have := hl.out; omega)
              have CU := Lib.hid (show m1 ≤ cm ∧ cm ≤ maxLen from ⟨hc, hm⟩)
              obtain rfl : l'.length = m1 := hl.out
              obtain ⟨AU, hAU⟩ : ∃ AU : Option Addr, some (⟨g, off, none⟩ : Addr) = AU := ⟨_, rfl⟩
              rw [hAU] at RU V ⊢
              rw [TR.out.1] at V
              clear hr ht HT NR3 TR hm hc hAU hl hgo
              by_cases hm2 : 1 < l'.length
              · go_wp2_with fail
                go_must (go_fit V.out)
                rintro e w' ⟨rfl, rfl⟩
                clear V
                have DE := Lib.hid (refdecimal_any (c := cm) _ RU.out (Nat.le_refl _) LU.out)
                have PY := Lib.hid (fun (h : decI l' = S.data.toList) => ParS.yes VU.out h)
                clear VU
                go_wp2_with fail
                go_must (go_fit DE.out)
                rintro e w9 ⟨rfl, hb9⟩
                have BE9 := Lib.hid (two_belowK BE8.out hb9 BE8.out.size)
                have R9 := Lib.hid (RU.out.past hb9)
                by_cases hd : (⟨(decI l').toArray⟩ : ByteArray) = S
                · have FIN := Lib.hid (show ParP 1999 w S.data.toList (.returned (.tuple #[.slice AU l'.length cm, .int .i64 0])) w9 from ⟨l', 0, AU, cm, rfl, R9.out, CU.out.1, CU.out.2, BE9.out, LU.out, PY.out (str_data.1 hd)⟩)
                  clear DE R9 BE9 PY PN hb9 RU BE8 CU LU
                  rw [hd]
                  go_wp2
                  go_ret2
                  exact FIN.out
                · have FIN := Lib.hid (ParP.none_ (L := 1999) (PN.out (fun h => hd (str_data.2 h))) BE9.out)
                  have hne := str_ne hd
                  generalize (⟨(decI l').toArray⟩ : ByteArray) = D at *
                  clear DE R9 BE9 PY PN hb9 RU BE8 CU LU
                  go_wp2
                  go_ret2
                  exact FIN.out
              · clear V
                have DE := Lib.hid (refdecimal_any (c := cm) _ RU.out (Nat.le_refl _) LU.out)
                have PY := Lib.hid (fun (h : decI l' = S.data.toList) => ParS.yes VU.out h)
                clear VU
                go_wp2_with fail
                go_must (go_fit DE.out)
                rintro e w9 ⟨rfl, hb9⟩
                have BE9 := Lib.hid (two_belowK BE8.out hb9 BE8.out.size)
                have R9 := Lib.hid (RU.out.past hb9)
                by_cases hd : (⟨(decI l').toArray⟩ : ByteArray) = S
                · have FIN := Lib.hid (show ParP 1999 w S.data.toList (.returned (.tuple #[.slice AU l'.length cm, .int .i64 0])) w9 from ⟨l', 0, AU, cm, rfl, R9.out, CU.out.1, CU.out.2, BE9.out, LU.out, PY.out (str_data.1 hd)⟩)
                  clear DE R9 BE9 PY PN hb9 RU BE8 CU LU
                  rw [hd]
                  go_wp2
                  go_ret2
                  exact FIN.out
                · have FIN := Lib.hid (ParP.none_ (L := 1999) (PN.out (fun h => hd (str_data.2 h))) BE9.out)
                  have hne := str_ne hd
                  generalize (⟨(decI l').toArray⟩ : ByteArray) = D at *
                  clear DE R9 BE9 PY PN hb9 RU BE8 CU LU
                  go_wp2
                  go_ret2
                  exact FIN.out

/-- PARSEDECIMAL of the reference -/
theorem refpar_any (S : ByteArray) (w : World) (hs : S.size ≤ 100) : Calls Try.prog 7 #[.string S] w (ParP 1999 w S.data.toList) := by
  cases h : hasS S.data.toList with
  | true => exact refpar_sign S w hs h
  | false => exact refpar_plain S w hs h
end Go.Proofs.Ytiogcdpmgomllaa.Int4
