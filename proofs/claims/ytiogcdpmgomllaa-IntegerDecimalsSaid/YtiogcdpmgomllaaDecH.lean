/- Walks: ParseDecimal of the package integer. Printed by gen_dech.py. -/
import Derived.Test.YtiogcdpmgomllaaDecF
import Derived.Test.YtiogcdpmgomllaaDecG
import Derived.Test.YtiogcdpmgomllaaIntF
import Derived.Test.YtiogcdpmgomllaaIntK
set_option linter.unusedSimpArgs false
set_option linter.unusedVariables false
namespace Go.Proofs.Ytiogcdpmgomllaa.Int4
open Go.RowKit Kit Tlv Cur

/-- ten times a number and a digit, from the last octet on -/
def MulR (l m : List UInt8) (j : Nat) (x cy : Int) : Prop :=
  m.length = l.length ∧ m.take j = l.take j ∧ beI (m.drop j) + cy * pw (l.length - j) = 10 * beI (l.drop j) + x ∧ 0 ≤ cy ∧ cy ≤ 9
theorem MulR.start (l : List UInt8) (x : Int) (h : 0 ≤ x) (h9 : x ≤ 9) : MulR l l l.length x x := by
  refine ⟨rfl, rfl, ?_, h, h9⟩
  rw [List.drop_length, Nat.sub_self, pw_zero, beI_nil]
  omega
theorem MulR.at_ {l m : List UInt8} {j : Nat} {x cy : Int} (h : MulR l m (j + 1) x cy) (hj : j < l.length) : bt m j = bt l j := by
  have h1 : bt (m.take (j + 1)) j = bt (l.take (j + 1)) j := by rw [h.2.1]
  rwa [bt_take (by omega), bt_take (by omega)] at h1
theorem MulR.step {l m : List UInt8} {j : Nat} {x cy : Int} (h : MulR l m (j + 1) x cy) (hj : j < l.length) :
    MulR l (m.set j (ofI ((cy + 10 * bt l j) % 256))) j x ((cy + 10 * bt l j) / 256) := by
  obtain ⟨h1, h2, h3, h4, h5⟩ := h
  have b0 := bt_lo l j
  have b1 := bt_hi l j
  refine ⟨by simp [h1], ?_, ?_, by omega, by omega⟩
  · have := congrArg (List.take j) h2
    rw [List.take_take, List.take_take, Nat.min_eq_left (by omega)] at this
    rw [List.take_set_of_le (Nat.le_refl _)]
    exact this
  · have hm : j < (m.set j (ofI ((cy + 10 * bt l j) % 256))).length := by simp; omega
    rw [drop_beI' hm, drop_beI' hj, List.length_set, h1, List.drop_set_of_lt (by omega)]
    have e : bt (m.set j (ofI ((cy + 10 * bt l j) % 256))) j = (cy + 10 * bt l j) % 256 := by
      rw [bt_eq hm, List.getElem_set_self, ofI_toNat (by omega) (by omega)]
    rw [e]
    have hp : pw (l.length - j) = pw (l.length - (j + 1)) * 256 := by
      rw [show l.length - j = (l.length - (j + 1)) + 1 from by omega, pw_succ]
    rw [hp]
    have h6 : (cy + 10 * bt l j) % 256 + (cy + 10 * bt l j) / 256 * 256 = cy + 10 * bt l j := by omega
    generalize pw (l.length - (j + 1)) = P at *
    have e2 : (cy + 10 * bt l j) % 256 * P + (cy + 10 * bt l j) / 256 * (P * 256) = (cy + 10 * bt l j) * P := by
      rw [← Int.mul_assoc, Int.mul_right_comm, ← Int.add_mul, h6]
    have e3 : (cy + 10 * bt l j) * P = cy * P + 10 * (bt l j * P) := by rw [Int.add_mul, Int.mul_assoc]
    omega
theorem MulR.stop {l m : List UInt8} {x cy : Int} (h : MulR l m 0 x cy) : m.length = l.length ∧ beI m + cy * pw l.length = 10 * beI l + x ∧ 0 ≤ cy ∧ cy ≤ 9 := by
  obtain ⟨h1, h2, h3, h4, h5⟩ := h
  rw [List.drop_zero, List.drop_zero, Nat.sub_zero] at h3
  exact ⟨h1, h3, h4, h5⟩
/-- where the loop over the characters stands -/
def PiL (w : World) (q : List UInt8) (t i : Value) (wr : World) : Prop :=
  ∃ (k : Nat) (l : List UInt8) (A : Option Addr) (c : Nat), t = .slice A l.length c ∧ i = .int .i64 (k : Int) ∧ k ≤ q.length ∧ Own wr w.heap.size A l.length c l ∧ 1 ≤ l.length ∧ l.length ≤ 1 + k ∧
    Below w.heap.size w wr ∧ (q.take k).all isD = true ∧ beI l = ((decV (q.take k) : Nat) : Int)

set_option maxRecDepth 100000 in
set_option maxHeartbeats 8000000 in
theorem par_plain (S : ByteArray) (w : World) (hs : S.size ≤ 900) (hS : hasS S.data.toList = false) :
    Calls Try.prog 6 #[.string S] w (ParP 1000 w S.data.toList) := by
  have hsz : S.data.toList.length = S.size := Array.length_toList
  have CP := Lib.hid (cutprefix_any S w)
  obtain ⟨q, hq⟩ : ∃ q, numS S.data.toList = q := ⟨_, rfl⟩
  have hql0 : q.length ≤ S.size := by
    rw [← hq, ← hsz]
    unfold numS
    split <;> first | exact Nat.le_refl _ | (rw [List.length_drop]; omega)
  rw [hS, hq] at CP
  obtain ⟨Q, hQ⟩ : ∃ Q : ByteArray, (⟨q.toArray⟩ : ByteArray) = Q := ⟨_, rfl⟩
  have hQd : Q.data.toList = q := by rw [← hQ]
  have hQs : Q.size = q.length := by rw [← hQd]; exact Array.length_toList.symm
  rw [hQ] at CP
  have QX := Lib.hid (fun (k : Nat) (hk : k < Q.size) => show q[k]? = some (Q[k]'hk) from by
    subst hQd
    rw [List.getElem?_eq_getElem (by rw [Array.length_toList]; exact hk)]
    rfl)
  have NO := Lib.hid (fun (k : Nat) (x : UInt8) (h : q[k]? = some x) (hx : isD x = false) => ParS.bad (s := S.data.toList) (by rw [hq]; exact all_no h hx))
  have L0 := lit1' (base := w.heap.size) w 0 (by omega) (by omega) (Nat.le_refl _)
  have ST := Lib.hid (show PiL w q (.slice (some ⟨w.heap.size, 0, none⟩) 1 1) (.int .i64 0) (w.alloc (.cells #[.int .u8 0] 5)) from
    ⟨0, [ofI 0], _, _, rfl, rfl, Nat.zero_le _, L0, Nat.le_refl _, Nat.le_refl _, (Below.refl _ _).alloc (Nat.le_refl _) _, by simp, by rfl⟩)
  clear L0 hQ hQd
  go_enter Try.func6, Try.ntmps6
  go_wp2_with fail
  go_must (go_fit CP.out)
  rintro e w1 ⟨rfl, rfl⟩
  clear CP
  go_wp2
  go_loopw [6, 19] (fun t i wr => PiL w q t i wr) (fun _ i _ => q.length - (intOf i).toNat)
  case atStart => exact ST.out
  case round =>
    obtain ⟨k, l, A, c, rfl, rfl, hk, ho, h1, h2, hbe, hall, hv⟩ := hrel
    rename World => w5
    clear ST
    by_cases hlt : k < Q.size
    · have hkz : (k : Int) < (Q.size : Int) := by omega
      have hqx := QX.out k hlt
      obtain ⟨x, hx⟩ : ∃ x, Q[k]'hlt = x := ⟨_, rfl⟩
      rw [hx] at hqx
      have BE := Lib.hid hbe
      clear hbe
      by_cases hlo : (x.toNat : Int) < 48
      · have FIN := Lib.hid (ParP.none_ (L := 1000) (NO.out k x hqx (isD_no (.inl hlo))) BE.out)
        clear ho hall hv QX NO hqx
        go_wp2
        go_ret2
        exact FIN.out
      · by_cases hhi : (57 : Int) < (x.toNat : Int)
        · have FIN := Lib.hid (ParP.none_ (L := 1000) (NO.out k x hqx (isD_no (.inr hhi))) BE.out)
          clear ho hall hv QX NO hqx
          go_wp2
          go_ret2
          exact FIN.out
        · have hdg := isD_yes hlo hhi
          have hkl : k < q.length := by omega
          have hqk : q[k] = x := by
            rw [List.getElem?_eq_getElem hkl] at hqx
            injection hqx
          have ALL := Lib.hid (show (q.take (k + 1)).all isD = true from by
            rw [List.take_succ_eq_append_getElem hkl, List.all_append, hall, hqk]
            simp [hdg])
          have DV := Lib.hid (show ((decV (q.take (k + 1)) : Nat) : Int) = 10 * beI l + ((x.toNat : Int) - 48) from by
            rw [decV_take hkl, hqk, hv]; omega)
          obtain ⟨n, hn⟩ : ∃ n, l.length = n := ⟨_, rfl⟩
          rw [hn] at ho h1 h2 ⊢
          have M0 := Lib.hid (show MulR l l n ((x.toNat : Int) - 48) ((x.toNat : Int) - 48) from by rw [← hn]; exact MulR.start l _ (by omega) (by omega))
          have MS := Lib.hid (fun m j cy (h : MulR l m (j + 1) ((x.toNat : Int) - 48) cy) (hj : j < n) => And.intro (h.at_ (by omega)) (h.step (by omega)))
          have ME := Lib.hid (fun m cy (h : MulR l m 0 ((x.toNat : Int) - 48) cy) => MulR.stop h)
          have OW := Lib.hid ho
          have HN := Lib.hid hn
          have zz := BE.out.size
          clear ho hall hv QX NO hqx hdg hqk hn
          go_wp2
          go_loopw [8, 9] (fun cy i wr => ∃ (j : Nat) (m : List UInt8) (y : Int), j ≤ n ∧ i = .int .i64 ((j : Int) - 1) ∧ cy = .int .i64 y ∧ Own wr w.heap.size A n c m ∧ Below w.heap.size w wr ∧ Hid (MulR l m j ((x.toNat : Int) - 48) y) ∧ 0 ≤ y ∧ y ≤ 9)
            (fun _ i _ => (intOf i + 1).toNat)
          case atStart => exact ⟨n, l, _, Nat.le_refl _, rfl, rfl, OW.out, BE.out, M0, by omega, by omega⟩
          case round =>
            obtain ⟨j, m, y, hj, rfl, rfl, ho, hbe, hM, y0, y1⟩ := hrel
            rename World => w6
            clear OW BE M0
            by_cases hj1 : 1 ≤ j
            · obtain ⟨i, rfl⟩ : ∃ i, j = i + 1 := ⟨j - 1, by omega⟩
              obtain ⟨ha, hst⟩ := MS.out _ _ _ hM.out (by omega)
              obtain ⟨g, rfl⟩ := ho.shape (by omega)
              have hge := Own.lt ho
              have cc := ho.cellAt (k := i) (by omega)
              have ff := ho.frozenAt i
              have b0 := bt_lo m i
              have b1 := bt_hi m i
              rw [← ha] at hst
              have HST := Lib.hid hst
              have hs := Lib.hid (fun x h0 h1 => ho.stored i (x := x) h0 h1)
              have hbs := Lib.hid (fun u => Below.setCell hbe (p := ⟨g, i, none⟩) hge.1 u)
              have e1 : ((i + 1 : Nat) : Int) - 1 = (i : Int) := by omega
              have hni : (i : Int) < (n : Int) := by omega
              rw [e1]
              generalize bt m i = b at *
              have z0 : 0 ≤ (y + 10 * b) % 256 := by omega
              have z1 : (y + 10 * b) % 256 ≤ 255 := by omega
              have q0 : 0 ≤ (y + 10 * b) / 256 := by omega
              have q1 : (y + 10 * b) / 256 ≤ 9 := by omega
              clear hM ha hst ho hbe
              go_wp2
              go_roundw
              case rel => exact ⟨i, _, _, by omega, rfl, rfl, hs.out _ z0 z1, hbs.out _, HST, q0, q1⟩
              case measure => simp [intOf]
            · obtain rfl : j = 0 := by omega
              obtain ⟨e1, e2, -⟩ := ME.out _ _ hM.out
              have LM := Lib.hid e1
              have EQ := Lib.hid e2
              have BE := Lib.hid hbe
              have OW := Lib.hid ho
              clear hM MS ME ho hbe e1 e2
              by_cases hy : 0 < y
              · have IN := Lib.hid (insert_any (x := y) OW.out (by omega) (by omega) (by omega) (by omega) BE.out.size)
                have ym : y % 256 = y := by omega
                go_wp2_with fail
                go_must (go_fit IN.out)
                rintro e w7 ⟨A7, c7, rfl, ho7, hb7⟩
                have hz : (ofI y :: m).length = n + 1 := by rw [List.length_cons, LM.out, HN.out]
                have RL := Lib.hid (show PiL w q (.slice A7 (n + 1) c7) (.int .i64 ((k : Int) + 1)) w7 from
                  ⟨k + 1, ofI y :: m, A7, c7, by rw [hz], by rw [Int.natCast_add]; rfl, by omega, by rw [hz]; exact ho7, by omega, by omega, BE.out.trans hb7, ALL.out,
                    by rw [DV.out, beI_cons, ofI_toNat (by omega) (by omega), LM.out]; have := EQ.out; omega⟩)
                clear IN ho7 hb7 hz
                go_wp2
                go_roundw
                case rel => exact RL.out
                case measure => simp [intOf]; omega
              · obtain rfl : y = 0 := by omega
                have hz : m.length = n := by rw [LM.out, HN.out]
                have RL := Lib.hid (show PiL w q (.slice A n c) (.int .i64 ((k : Int) + 1)) w6 from
                  ⟨k + 1, m, A, c, by rw [hz], by rw [Int.natCast_add]; rfl, by omega, by rw [hz]; exact OW.out, by omega, by omega, BE.out, ALL.out,
                    by rw [DV.out]; have := EQ.out; omega⟩)
                clear hz
                go_wp2
                go_roundw
                case rel => exact RL.out
                case measure => simp [intOf]; omega
    · obtain rfl : q.length = k := by omega
      rw [List.take_length] at hall hv
      have BE := Lib.hid hbe
      have FU := Lib.hid (fromuns_any (c := c) w5 ho.rd (Nat.le_refl _) ho.cap ho.capMax (by omega))
      obtain ⟨uv, us, ul, up⟩ := uns_ok l
      have un := uns_pos l
      have lh := ho.len
      have hsv : sv (unsL l) = beI (unsL l) := sv_pos un
      have VU := Lib.hid uv
      have PN := Lib.hid (fun (h : decI (unsL l) ≠ S.data.toList) => ParS.no uv (by rw [us, hv, valS, hS, hq]; rfl) h)
      generalize unsL l = u at *
      clear ho hbe hall hv QX NO hsv us uv un lh
      go_wp2_with fail
      go_must (go_fit FU.out)
      rintro e wU ⟨AU, cU, rfl, hou, hb6⟩
      have BU := Lib.hid (two_belowK BE.out hb6 BE.out.size)
      have RU := Lib.hid hou.rd
      have CU := Lib.hid (And.intro hou.cap hou.capMax)
      have LU := Lib.hid (show u.length ≤ 1000 from by omega)
      clear FU hou hb6 BE
      have DE := Lib.hid (decimal_any (c := cU) wU RU.out (Nat.le_refl _) CU.out.1 CU.out.2 LU.out)
      have PY := Lib.hid (fun (h : decI u = S.data.toList) => ParS.yes VU.out h)
      clear VU
      go_wp2_with fail
      go_must (go_fit DE.out)
      rintro e w9 ⟨rfl, hb9⟩
      have BE9 := Lib.hid (two_belowK BU.out hb9 BU.out.size)
      have R9 := Lib.hid (RU.out.past hb9)
      by_cases hd : (⟨(decI u).toArray⟩ : ByteArray) = S
      · have FIN := Lib.hid (show ParP 1000 w S.data.toList (.returned (.tuple #[.slice AU u.length cU, .int .i64 0])) w9 from ⟨u, 0, AU, cU, rfl, R9.out, CU.out.1, CU.out.2, BE9.out, LU.out, PY.out (str_data.1 hd)⟩)
        clear DE R9 BE9 PY PN hb9 RU BU CU LU
        rw [hd]
        go_wp2
        go_ret2
        exact FIN.out
      · have FIN := Lib.hid (ParP.none_ (L := 1000) (PN.out (fun h => hd (str_data.2 h))) BE9.out)
        have hne := str_ne hd
        generalize (⟨(decI u).toArray⟩ : ByteArray) = D at *
        clear DE R9 BE9 PY PN hb9 RU BU CU LU
        go_wp2
        go_ret2
        exact FIN.out

set_option maxRecDepth 100000 in
set_option maxHeartbeats 8000000 in
theorem par_sign (S : ByteArray) (w : World) (hs : S.size ≤ 900) (hS : hasS S.data.toList = true) :
    Calls Try.prog 6 #[.string S] w (ParP 1000 w S.data.toList) := by
  have hsz : S.data.toList.length = S.size := Array.length_toList
  have CP := Lib.hid (cutprefix_any S w)
  obtain ⟨q, hq⟩ : ∃ q, numS S.data.toList = q := ⟨_, rfl⟩
  have hql0 : q.length ≤ S.size := by
    rw [← hq, ← hsz]
    unfold numS
    split <;> first | exact Nat.le_refl _ | (rw [List.length_drop]; omega)
  rw [hS, hq] at CP
  obtain ⟨Q, hQ⟩ : ∃ Q : ByteArray, (⟨q.toArray⟩ : ByteArray) = Q := ⟨_, rfl⟩
  have hQd : Q.data.toList = q := by rw [← hQ]
  have hQs : Q.size = q.length := by rw [← hQd]; exact Array.length_toList.symm
  rw [hQ] at CP
  have QX := Lib.hid (fun (k : Nat) (hk : k < Q.size) => show q[k]? = some (Q[k]'hk) from by
    subst hQd
    rw [List.getElem?_eq_getElem (by rw [Array.length_toList]; exact hk)]
    rfl)
  have NO := Lib.hid (fun (k : Nat) (x : UInt8) (h : q[k]? = some x) (hx : isD x = false) => ParS.bad (s := S.data.toList) (by rw [hq]; exact all_no h hx))
  have L0 := lit1' (base := w.heap.size) w 0 (by omega) (by omega) (Nat.le_refl _)
  have ST := Lib.hid (show PiL w q (.slice (some ⟨w.heap.size, 0, none⟩) 1 1) (.int .i64 0) (w.alloc (.cells #[.int .u8 0] 5)) from
    ⟨0, [ofI 0], _, _, rfl, rfl, Nat.zero_le _, L0, Nat.le_refl _, Nat.le_refl _, (Below.refl _ _).alloc (Nat.le_refl _) _, by simp, by rfl⟩)
  clear L0 hQ hQd
  go_enter Try.func6, Try.ntmps6
  go_wp2_with fail
  go_must (go_fit CP.out)
  rintro e w1 ⟨rfl, rfl⟩
  clear CP
  go_wp2
  go_loopw [6, 19] (fun t i wr => PiL w q t i wr) (fun _ i _ => q.length - (intOf i).toNat)
  case atStart => exact ST.out
  case round =>
    obtain ⟨k, l, A, c, rfl, rfl, hk, ho, h1, h2, hbe, hall, hv⟩ := hrel
    rename World => w5
    clear ST
    by_cases hlt : k < Q.size
    · have hkz : (k : Int) < (Q.size : Int) := by omega
      have hqx := QX.out k hlt
      obtain ⟨x, hx⟩ : ∃ x, Q[k]'hlt = x := ⟨_, rfl⟩
      rw [hx] at hqx
      have BE := Lib.hid hbe
      clear hbe
      by_cases hlo : (x.toNat : Int) < 48
      · have FIN := Lib.hid (ParP.none_ (L := 1000) (NO.out k x hqx (isD_no (.inl hlo))) BE.out)
        clear ho hall hv QX NO hqx
        go_wp2
        go_ret2
        exact FIN.out
      · by_cases hhi : (57 : Int) < (x.toNat : Int)
        · have FIN := Lib.hid (ParP.none_ (L := 1000) (NO.out k x hqx (isD_no (.inr hhi))) BE.out)
          clear ho hall hv QX NO hqx
          go_wp2
          go_ret2
          exact FIN.out
        · have hdg := isD_yes hlo hhi
          have hkl : k < q.length := by omega
          have hqk : q[k] = x := by
            rw [List.getElem?_eq_getElem hkl] at hqx
            injection hqx
          have ALL := Lib.hid (show (q.take (k + 1)).all isD = true from by
            rw [List.take_succ_eq_append_getElem hkl, List.all_append, hall, hqk]
            simp [hdg])
          have DV := Lib.hid (show ((decV (q.take (k + 1)) : Nat) : Int) = 10 * beI l + ((x.toNat : Int) - 48) from by
            rw [decV_take hkl, hqk, hv]; omega)
          obtain ⟨n, hn⟩ : ∃ n, l.length = n := ⟨_, rfl⟩
          rw [hn] at ho h1 h2 ⊢
          have M0 := Lib.hid (show MulR l l n ((x.toNat : Int) - 48) ((x.toNat : Int) - 48) from by rw [← hn]; exact MulR.start l _ (by omega) (by omega))
          have MS := Lib.hid (fun m j cy (h : MulR l m (j + 1) ((x.toNat : Int) - 48) cy) (hj : j < n) => And.intro (h.at_ (by omega)) (h.step (by omega)))
          have ME := Lib.hid (fun m cy (h : MulR l m 0 ((x.toNat : Int) - 48) cy) => MulR.stop h)
          have OW := Lib.hid ho
          have HN := Lib.hid hn
          have zz := BE.out.size
          clear ho hall hv QX NO hqx hdg hqk hn
          go_wp2
          go_loopw [8, 9] (fun cy i wr => ∃ (j : Nat) (m : List UInt8) (y : Int), j ≤ n ∧ i = .int .i64 ((j : Int) - 1) ∧ cy = .int .i64 y ∧ Own wr w.heap.size A n c m ∧ Below w.heap.size w wr ∧ Hid (MulR l m j ((x.toNat : Int) - 48) y) ∧ 0 ≤ y ∧ y ≤ 9)
            (fun _ i _ => (intOf i + 1).toNat)
          case atStart => exact ⟨n, l, _, Nat.le_refl _, rfl, rfl, OW.out, BE.out, M0, by omega, by omega⟩
          case round =>
            obtain ⟨j, m, y, hj, rfl, rfl, ho, hbe, hM, y0, y1⟩ := hrel
            rename World => w6
            clear OW BE M0
            by_cases hj1 : 1 ≤ j
            · obtain ⟨i, rfl⟩ : ∃ i, j = i + 1 := ⟨j - 1, by omega⟩
              obtain ⟨ha, hst⟩ := MS.out _ _ _ hM.out (by omega)
              obtain ⟨g, rfl⟩ := ho.shape (by omega)
              have hge := Own.lt ho
              have cc := ho.cellAt (k := i) (by omega)
              have ff := ho.frozenAt i
              have b0 := bt_lo m i
              have b1 := bt_hi m i
              rw [← ha] at hst
              have HST := Lib.hid hst
              have hs := Lib.hid (fun x h0 h1 => ho.stored i (x := x) h0 h1)
              have hbs := Lib.hid (fun u => Below.setCell hbe (p := ⟨g, i, none⟩) hge.1 u)
              have e1 : ((i + 1 : Nat) : Int) - 1 = (i : Int) := by omega
              have hni : (i : Int) < (n : Int) := by omega
              rw [e1]
              generalize bt m i = b at *
              have z0 : 0 ≤ (y + 10 * b) % 256 := by omega
              have z1 : (y + 10 * b) % 256 ≤ 255 := by omega
              have q0 : 0 ≤ (y + 10 * b) / 256 := by omega
              have q1 : (y + 10 * b) / 256 ≤ 9 := by omega
              clear hM ha hst ho hbe
              go_wp2
              go_roundw
              case rel => exact ⟨i, _, _, by omega, rfl, rfl, hs.out _ z0 z1, hbs.out _, HST, q0, q1⟩
              case measure => simp [intOf]
            · obtain rfl : j = 0 := by omega
              obtain ⟨e1, e2, -⟩ := ME.out _ _ hM.out
              have LM := Lib.hid e1
              have EQ := Lib.hid e2
              have BE := Lib.hid hbe
              have OW := Lib.hid ho
              clear hM MS ME ho hbe e1 e2
              by_cases hy : 0 < y
              · have IN := Lib.hid (insert_any (x := y) OW.out (by omega) (by omega) (by omega) (by omega) BE.out.size)
                have ym : y % 256 = y := by omega
                go_wp2_with fail
                go_must (go_fit IN.out)
                rintro e w7 ⟨A7, c7, rfl, ho7, hb7⟩
                have hz : (ofI y :: m).length = n + 1 := by rw [List.length_cons, LM.out, HN.out]
                have RL := Lib.hid (show PiL w q (.slice A7 (n + 1) c7) (.int .i64 ((k : Int) + 1)) w7 from
                  ⟨k + 1, ofI y :: m, A7, c7, by rw [hz], by rw [Int.natCast_add]; rfl, by omega, by rw [hz]; exact ho7, by omega, by omega, BE.out.trans hb7, ALL.out,
                    by rw [DV.out, beI_cons, ofI_toNat (by omega) (by omega), LM.out]; have := EQ.out; omega⟩)
                clear IN ho7 hb7 hz
                go_wp2
                go_roundw
                case rel => exact RL.out
                case measure => simp [intOf]; omega
              · obtain rfl : y = 0 := by omega
                have hz : m.length = n := by rw [LM.out, HN.out]
                have RL := Lib.hid (show PiL w q (.slice A n c) (.int .i64 ((k : Int) + 1)) w6 from
                  ⟨k + 1, m, A, c, by rw [hz], by rw [Int.natCast_add]; rfl, by omega, by rw [hz]; exact OW.out, by omega, by omega, BE.out, ALL.out,
                    by rw [DV.out]; have := EQ.out; omega⟩)
                clear hz
                go_wp2
                go_roundw
                case rel => exact RL.out
                case measure => simp [intOf]; omega
    · obtain rfl : q.length = k := by omega
      rw [List.take_length] at hall hv
      have BE := Lib.hid hbe
      have FU := Lib.hid (fromuns_any (c := c) w5 ho.rd (Nat.le_refl _) ho.cap ho.capMax (by omega))
      obtain ⟨uv, us, ul, up⟩ := uns_ok l
      have un := uns_pos l
      have lh := ho.len
      have hsv : sv (unsL l) = beI (unsL l) := sv_pos un
      have NR := Lib.hid (fun (v : List UInt8) cy h c0 c1 (e1 : v.length = (unsL l).length) (c : List UInt8) => neg_own (u := unsL l) (v := v) (cy := cy) (c := c) hS up un (by rw [← hsv, us, hv, hq]) e1 h c0 c1)
      generalize unsL l = u at *
      clear ho hbe hall hv QX NO hsv us uv un lh
      go_wp2_with fail
      go_must (go_fit FU.out)
      rintro e w6 ⟨A6, c6, rfl, ho6, hb6⟩
      obtain ⟨nu, hnu⟩ : ∃ nu, u.length = nu := ⟨_, rfl⟩
      rw [hnu] at ho6 ul up ⊢
      have BE6 := Lib.hid (two_belowK BE.out hb6 BE.out.size)
      have NG := Lib.hid (negated_any (c := c6) w6 ho6.rd (Nat.le_refl _) (by omega) (by omega))
      clear FU ho6 hb6 BE
      go_wp2_with fail
      go_must (go_fit NG.out)
      rintro e w8 ⟨g8, c8, v, cy, rfl, ho8, e1, e2, y0, y1, hb8⟩
      have BE8 := Lib.hid (two_belowK BE6.out hb8 BE6.out.size)
      have TR := Lib.hid (trim_ok v (by omega))
      have NR3 := Lib.hid (fun (c : List UInt8) => NR.out v cy e2 y0 y1 e1 c)
      have C0 := Lib.hid (show CutG w8 w6.heap.size (trimI v) g8 0 nu c8 from ⟨_, ho8.seg, rfl, by omega, ho8.cap, ho8.capMax⟩)
      have hlv := ho8.len
      obtain ⟨t, ht0⟩ : ∃ t, trimI v = t := ⟨_, rfl⟩
      rw [ht0] at C0 TR
      rw [hlv] at TR
      clear NG ho8 hb8 e1 e2 y0 y1 NR BE6 ht0
      go_wp2
      go_loop [10] (fun b => ∃ (g off m cm : Nat), b = .slice (some ⟨g, off, none⟩) m cm ∧ CutG w8 w6.heap.size t g off m cm) (fun b => match b with | .slice _ m _ => m | _ => 0)
      case atStart => exact ⟨_, _, _, _, rfl, C0.out⟩
      case round =>
        clear C0
        obtain ⟨g, off, m1, cm, rfl, l', hr, ht, h1', hc, hm⟩ := hrel
        have V := Lib.hid (valid_any (c := cm) w8 hr.rd (Nat.le_refl _))
        have HT := Lib.hid ht
        have hl := Lib.hid hr.len
        by_cases hgo : 1 < m1 ∧ validI l' = false
        · obtain ⟨hm1, hv⟩ := hgo
          unfold maxLen at hm
          have R' := Lib.hid (show CutG w8 w6.heap.size t g (off + 1) (m1 - 1) (cm - 1) from
            ⟨l'.drop 1, hr.drop h1', by rw [← trim_go (by rw [hl.out]; omega) hv]; exact ht, by omega, by omega, by unfold maxLen; omega⟩)
          rw [hv] at V
          have hcm : ¬ cm = 1 := by omega
          have hcm1 : (1 : Int) ≤ (cm : Int) := by omega
          have hm1' : (1 : Int) ≤ (m1 : Int) := by omega
          clear hr hv ht HT NR3 TR
          go_wp2_with (go_at_call 14; refine V.out.mono ?_; rintro e w' ⟨rfl, rfl⟩)
          go_round
          case rel => exact ⟨_, _, _, _, rfl, R'.out⟩
          case measure => show m1 - 1 < m1; omega
        · obtain rfl : l' = t := by rw [← ht]; exact (trim_stop (by rw [hl.out]; intro h; exact hgo ⟨by omega, h.2⟩)).symm
          have RU := Lib.hid hr.rd
          have VU := Lib.hid TR.out.1
          have PN := Lib.hid (fun h => NR3.out l' ⟨TR.out.1, TR.out.2.1⟩ h)
          have LU := Lib.hid (show m1 ≤ 1000 from by have := TR.out.2.2; have := hl.out; omega)
          have CU := Lib.hid (show m1 ≤ cm ∧ cm ≤ maxLen from ⟨hc, hm⟩)
          obtain rfl : l'.length = m1 := hl.out
          obtain ⟨AU, hAU⟩ : ∃ AU : Option Addr, some (⟨g, off, none⟩ : Addr) = AU := ⟨_, rfl⟩
          rw [hAU] at RU V ⊢
          rw [TR.out.1] at V
          clear hr ht HT NR3 TR hm hc hAU hl hgo
          by_cases hm2 : 1 < l'.length
          · go_wp2_with fail
            go_must (go_fit V.out)
            rintro e w' ⟨rfl, rfl⟩
            clear V
            have DE := Lib.hid (decimal_any (c := cm) _ RU.out (Nat.le_refl _) CU.out.1 CU.out.2 LU.out)
            have PY := Lib.hid (fun (h : decI l' = S.data.toList) => ParS.yes VU.out h)
            clear VU
            go_wp2_with fail
            go_must (go_fit DE.out)
            rintro e w9 ⟨rfl, hb9⟩
            have BE9 := Lib.hid (two_belowK BE8.out hb9 BE8.out.size)
            have R9 := Lib.hid (RU.out.past hb9)
            by_cases hd : (⟨(decI l').toArray⟩ : ByteArray) = S
            · have FIN := Lib.hid (show ParP 1000 w S.data.toList (.returned (.tuple #[.slice AU l'.length cm, .int .i64 0])) w9 from ⟨l', 0, AU, cm, rfl, R9.out, CU.out.1, CU.out.2, BE9.out, LU.out, PY.out (str_data.1 hd)⟩)
              clear DE R9 BE9 PY PN hb9 RU BE8 CU LU
              rw [hd]
              go_wp2
              go_ret2
              exact FIN.out
            · have FIN := Lib.hid (ParP.none_ (L := 1000) (PN.out (fun h => hd (str_data.2 h))) BE9.out)
              have hne := str_ne hd
              generalize (⟨(decI l').toArray⟩ : ByteArray) = D at *
              clear DE R9 BE9 PY PN hb9 RU BE8 CU LU
              go_wp2
              go_ret2
              exact FIN.out
          · clear V
            have DE := Lib.hid (decimal_any (c := cm) _ RU.out (Nat.le_refl _) CU.out.1 CU.out.2 LU.out)
            have PY := Lib.hid (fun (h : decI l' = S.data.toList) => ParS.yes VU.out h)
            clear VU
            go_wp2_with fail
            go_must (go_fit DE.out)
            rintro e w9 ⟨rfl, hb9⟩
            have BE9 := Lib.hid (two_belowK BE8.out hb9 BE8.out.size)
            have R9 := Lib.hid (RU.out.past hb9)
            by_cases hd : (⟨(decI l').toArray⟩ : ByteArray) = S
            · have FIN := Lib.hid (show ParP 1000 w S.data.toList (.returned (.tuple #[.slice AU l'.length cm, .int .i64 0])) w9 from ⟨l', 0, AU, cm, rfl, R9.out, CU.out.1, CU.out.2, BE9.out, LU.out, PY.out (str_data.1 hd)⟩)
              clear DE R9 BE9 PY PN hb9 RU BE8 CU LU
              rw [hd]
              go_wp2
              go_ret2
              exact FIN.out
            · have FIN := Lib.hid (ParP.none_ (L := 1000) (PN.out (fun h => hd (str_data.2 h))) BE9.out)
              have hne := str_ne hd
              generalize (⟨(decI l').toArray⟩ : ByteArray) = D at *
              clear DE R9 BE9 PY PN hb9 RU BE8 CU LU
              go_wp2
              go_ret2
              exact FIN.out
/-- PARSEDECIMAL -/
theorem par_any (S : ByteArray) (w : World) (hs : S.size ≤ 900) : Calls Try.prog 6 #[.string S] w (ParP 1000 w S.data.toList) := by
  cases h : hasS S.data.toList with
  | true => exact par_sign S w (by omega) h
  | false => exact par_plain S w (by omega) h
end Go.Proofs.Ytiogcdpmgomllaa.Int4
