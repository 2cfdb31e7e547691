/- Walks: Decimal of the reference of integers. Printed by gen_decc.py. -/
import Derived.Test.YtiogcdpmgomllaaDecB
import Derived.Test.YtiogcdpmgomllaaIntC
import Derived.Test.YtiogcdpmgomllaaIntK
set_option linter.unusedSimpArgs false
set_option linter.unusedVariables false
namespace Go.Proofs.Ytiogcdpmgomllaa.Int4
open Go.RowKit Kit Tlv Cur

/-- the complement, from the first octet on -/
def ComR (l m : List UInt8) (k : Nat) : Prop := m.length = l.length ∧ m.drop k = l.drop k ∧ beI (m.take k) + beI (l.take k) = pw k - 1
theorem ComR.start (l : List UInt8) : ComR l l 0 := ⟨rfl, rfl, by simp [beI_nil, pw_zero]⟩
theorem ComR.at_ {l m : List UInt8} {k : Nat} (h : ComR l m k) : bt m k = bt l k := by
  have h1 : bt (m.drop k) 0 = bt (l.drop k) 0 := by rw [h.2.1]
  rwa [bt_drop, bt_drop, Nat.add_zero] at h1
theorem ComR.step {l m : List UInt8} {k : Nat} (h : ComR l m k) (hk : k < l.length) : ComR l (m.set k (ofI (255 - bt m k))) (k + 1) := by
  have ha := h.at_
  obtain ⟨h1, h2, h3⟩ := h
  have b0 := bt_lo m k
  have b1 := bt_hi m k
  refine ⟨by simp [h1], ?_, ?_⟩
  · have := congrArg (List.drop 1) h2
    rw [List.drop_drop, List.drop_drop] at this
    rw [List.drop_set_of_lt (by omega)]
    exact this
  · have e1 : (m.set k (ofI (255 - bt m k))).take (k + 1) = m.take k ++ [ofI (255 - bt m k)] := by
      rw [List.take_succ_eq_append_getElem (by simp; omega), List.take_set_of_le (Nat.le_refl _)]
      simp
    rw [e1, beI_take hk, beI_snoc, ofI_toNat (by omega) (by omega), pw_succ, ← ha]
    omega
theorem ComR.stop {l m : List UInt8} (h : ComR l m l.length) : m.length = l.length ∧ beI m + beI l = pw l.length - 1 := by
  obtain ⟨h1, h2, h3⟩ := h
  rw [List.take_of_length_le (Nat.le_refl _), List.take_of_length_le (by omega)] at h3
  exact ⟨h1, h3⟩
/-- the sign of unsigned octets -/
theorem uns_sign (l : List UInt8) : signI (unsL l) = if be l = 0 then 0 else 1 := by
  obtain ⟨a, b, c, d⟩ := uns_ok l
  have hp := uns_pos l
  have hsv : sv (unsL l) = beI (unsL l) := sv_pos hp
  unfold signI
  rw [if_neg (by simp [a]), if_neg hp]
  by_cases h : be l = 0
  · rw [if_pos h, if_pos]
    have h0 : sv (unsL l) = 0 := by rw [b]; unfold beI; omega
    have h1 : unsL l = [0] := by
      refine sv_inj a (valid_one rfl) ?_
      rw [h0]
      rfl
    rw [h1]
    exact ⟨rfl, rfl⟩
  · rw [if_neg h, if_neg]
    rintro ⟨h1, h2⟩
    rw [hsv, beI_one h1, h2] at b
    unfold beI at b
    omega
/-- digits gathered, or all of them -/
def FrV (v0 N v : Nat) (o : List UInt8) : Prop := o.length ≤ N ∧ v < 10 ^ (N - o.length) ∧ (DG v0 v o ∨ (v = 0 ∧ o ≠ [] ∧ decL v0 = o.reverse))
theorem FrV.next {v0 N v : Nat} {o : List UInt8} (h : FrV v0 N v o) (hN : 1 ≤ N) (hc : o = [] ∨ v ≠ 0) : o.length < N ∧ FrV v0 N (v / 10) (o ++ [ofI (48 + ((v % 10 : Nat) : Int))]) := by
  obtain ⟨h1, h2, h3⟩ := h
  have hd : DG v0 v o := by
    rcases h3 with h3 | ⟨h4, h5, -⟩
    · exact h3
    · rcases hc with hc | hc
      · exact absurd hc h5
      · exact absurd h4 hc
  have hk := DG.room hd h1 h2 rfl hN
  refine ⟨hk, by simp; omega, by rw [List.length_append, List.length_singleton]; exact pow_step hk h2, ?_⟩
  by_cases hq : v / 10 = 0
  · exact .inr ⟨hq, by simp, by rw [hd.stop hq]⟩
  · exact .inl (hd.step hq)
theorem FrV.stop {v0 N v : Nat} {o : List UInt8} (h : FrV v0 N v o) (ho : o ≠ []) (hv : v = 0) : decL v0 = o.reverse := by
  rcases h.2.2 with h3 | ⟨-, -, h4⟩
  · rcases h3.2 with h4 | h4
    · exact absurd h4 ho
    · exact absurd hv h4
  · exact h4
theorem str_inj {a b : ByteArray} (h : a.toList = b.toList) : a = b := by
  rw [Lib.toList_data, Lib.toList_data] at h
  obtain ⟨x⟩ := a
  obtain ⟨y⟩ := b
  have : x = y := Array.toList_inj.1 h
  rw [this]
theorem str_ne {a b : ByteArray} (h : ¬ a = b) : (a.toList == b.toList) = false := by
  rw [beq_eq_false_iff_ne]; exact fun h' => h (str_inj h')
theorem str_some {a : ByteArray} (h : ¬ a = { data := #[] }) : a.toList.isEmpty = false := by
  cases hl : a.toList with
  | nil => exact absurd (str_inj (b := { data := #[] }) (by rw [hl, Lib.toList_data])) h
  | cons x t => rfl
theorem str_dig {d : Nat} (hd : d < 10) (o : List UInt8) :
    (({ data := #[48, 49, 50, 51, 52, 53, 54, 55, 56, 57] } : ByteArray).extract d (d + 1) ++ (⟨o.reverse.toArray⟩ : ByteArray)) = ⟨(o ++ [ofI (48 + (d : Int))]).reverse.toArray⟩ := by
  have h1 : (({ data := #[48, 49, 50, 51, 52, 53, 54, 55, 56, 57] } : ByteArray).extract d (d + 1)).data = #[ofI (48 + (d : Int))] := by
    rcases (by omega : d = 0 ∨ d = 1 ∨ d = 2 ∨ d = 3 ∨ d = 4 ∨ d = 5 ∨ d = 6 ∨ d = 7 ∨ d = 8 ∨ d = 9) with rfl | rfl | rfl | rfl | rfl | rfl | rfl | rfl | rfl | rfl <;> decide +kernel
  apply ByteArray.ext
  rw [ByteArray.data_append, h1, List.reverse_append, List.reverse_singleton]
  apply Array.ext'
  simp
theorem str_sign (x : List UInt8) : (({ data := #[45] } : ByteArray) ++ (⟨x.toArray⟩ : ByteArray)) = ⟨(45 :: x).toArray⟩ := by
  apply ByteArray.ext
  rw [ByteArray.data_append]
  apply Array.ext'
  simp
def strLen : Value → Nat
  | .string b => b.size
  | _ => 0


set_option maxRecDepth 100000 in
set_option maxHeartbeats 8000000 in
theorem refdecimal_pos {A : Option Addr} {n c B : Nat} {l : List UInt8} (w : World) (hr : Rd w B A n l) (hB : B ≤ w.heap.size) (hn : n ≤ 2000) (hv : validI l = true) (hg : ¬ 128 ≤ bt l 0) :
    Calls Try.prog 8 #[.slice A n c] w fun e w' => e = .returned (.string ⟨(decI l).toArray⟩) ∧ Below w.heap.size w w' := by
  have hl := hr.len
  have hp := valid_pos hv
  have V := Lib.hid (fun (X : World) (h : Below w.heap.size w X) => refvalid_any (c := c) X (hr.below (h.mono hB)) (Nat.le_trans hB h.size))
  rw [hv] at V
  have SI := Lib.hid (fun (X : World) (h : Below w.heap.size w X) => refsign_any (c := c) X (hr.below (h.mono hB)) (Nat.le_trans hB h.size) (by unfold maxLen; omega))
  have hs : ¬ signI l < 0 := fun h => hg ((sign_lt hv).1 h)
  have FF := Lib.hid (show decI l = decL (be l) from by unfold decI; rw [if_neg (by simp [hv]), if_neg hg])
  obtain ⟨v0, hv0⟩ : ∃ v, be l = v := ⟨_, rfl⟩
  have HV := Lib.hid hv0
  rw [hv0] at FF
  obtain ⟨N, hN⟩ : ∃ N, 3 * n = N := ⟨_, rfl⟩
  have hN1 : 1 ≤ N := by omega
  have hN2 : N ≤ 6000 := by omega
  have FR0 := Lib.hid (show FrV v0 N v0 [] from ⟨Nat.zero_le _, by have := be_dec l; rw [hv0, hl, hN] at this; exact this, .inl (DG.start _)⟩)
  have ow0 : Own (w.alloc (.cells #[] 5)) w.heap.size (some ⟨w.heap.size, 0, none⟩) 0 0 [] := by
    have h := Own.lit (base := w.heap.size) w [] (Nat.le_refl _) (Nat.zero_le _)
    simpa [vs] using h
  have rc0 := hr.alloc hB (.cells #[] 5)
  generalize signI l = sg at *
  generalize decI l = DI at *
  clear hr hg hv hv0 hN
  go_enter Try.func8, Try.ntmps8
  go_wp2_with fail
  go_must (go_fit (V.out _ (Below.refl _ _)))
  rintro e w' ⟨rfl, rfl⟩
  go_wp2_with (first | (at_builtin; go_must (refine app rfl (.tmp 13) (.tmp 14) rfl rfl ow0 rfl rc0 (by first | omega | (simp; omega) | simp) (by first | omega | (simp; omega) | simp) ?_); intro A5 c5 w1 ho1 hg1 hb1 hs1))
  simp only [List.length_nil, Nat.zero_add, List.nil_append] at ho1
  have hx : Below w.heap.size w w1 := ((Below.refl _ _).alloc (Nat.le_refl _) (.cells #[] 5)).trans hb1
  have OW := Lib.hid ho1
  have BE := Lib.hid hx
  clear ow0 rc0 hg1 hb1 hs1 ho1 hx
  go_must (go_fit (SI.out _ BE.out))
  rintro e w' ⟨rfl, rfl⟩
  obtain ⟨n5, h5⟩ : ∃ n5, n = n5 := ⟨_, rfl⟩
  obtain ⟨m0, hm0⟩ : ∃ m0, l = m0 := ⟨_, rfl⟩
  subst h5 hm0
  go_wp2
  go_loopw [6] (fun s wr => ∃ (o m : List UInt8) (v : Nat), s = .string ⟨o.reverse.toArray⟩ ∧ Own wr w.heap.size A5 n c5 m ∧ be m = v ∧ Below w.heap.size w wr ∧ Hid (FrV v0 N v o)) (fun s _ => N - strLen s)
  case atStart => exact ⟨[], l, v0, rfl, OW.out, HV.out, BE.out, FR0⟩
  case round =>
    obtain ⟨o, m, v, rfl, ho, hv, hbe, hF⟩ := hrel
    rename World => w5
    clear OW HV BE FR0
    have hml := ho.len
    have FU := Lib.hid (reffromuns_any (c := c5) w5 ho.rd (Nat.le_refl _) (by omega))
    have SG := Lib.hid (fun (X : World) (A : Option Addr) (c : Nat) (h : Rd X X.heap.size A (unsL m).length (unsL m)) => refsign_any (c := c) X h (Nat.le_refl _) (by have := (uns_ok m).2.2.1; unfold maxLen; omega))
    rw [uns_sign, hv] at SG
    by_cases hcond : o = [] ∨ v ≠ 0
    · obtain ⟨hlt, hnx⟩ := hF.out.next hN1 hcond
      have HNX := Lib.hid hnx
      have D0 := Lib.hid (Div10.start m)
      have DA := Lib.hid (fun mm k r (h : Div10 m mm k r) (hi : k < n) => And.intro (Div10.at_ h (by omega)) (And.intro (Div10.step h (by omega)) (And.intro h.2.2.2.1 h.2.2.2.2)))
      have DE := Lib.hid (fun mm r (h : Div10 m mm n r) => Div10.stop (l := m) (m := mm) (r := r) (by rw [hml]; exact h))
      have OW5 := Lib.hid ho
      have BE5 := Lib.hid hbe
      clear hF hnx ho hbe
      by_cases ho0 : o = []
      · subst ho0
        clear FU SG hcond
        have STR := Lib.hid (show (⟨([] : List UInt8).reverse.toArray⟩ : ByteArray) = { data := #[] } from rfl)
        rw [STR.out]
        go_wp2
        go_loopw [7, 8] (fun r i wr => ∃ (k : Nat) (mm : List UInt8) (y : Int), k ≤ n ∧ i = .int .i64 (k : Int) ∧ r = .int .i64 y ∧ Own wr w.heap.size A5 n c5 mm ∧ Below w.heap.size w wr ∧ Hid (Div10 m mm k y)) (fun _ i _ => n - (intOf i).toNat)
        case atStart => exact ⟨0, m, 0, Nat.zero_le _, rfl, rfl, OW5.out, BE5.out, D0⟩
        case round =>
          obtain ⟨k, mm, y, hk, rfl, rfl, ho, hbe, hD⟩ := hrel
          clear OW5 BE5 D0
          by_cases hltk : k < n
          · have hkz : (k : Int) < (n : Int) := by omega
            obtain ⟨ha, hst, y0, y1⟩ := DA.out mm k y hD.out hltk
            obtain ⟨g, rfl⟩ := ho.shape (by omega)
            have hge := Own.lt ho
            have cc := ho.cellAt (k := k) (by omega)
            have ff := ho.frozenAt k
            have b0 := bt_lo mm k
            have b1 := bt_hi mm k
            rw [← ha] at hst
            have HST := Lib.hid hst
            have hs := Lib.hid (fun x h0 h1 => ho.stored k (x := x) h0 h1)
            have hbs := Lib.hid (fun u => Below.setCell hbe (p := ⟨g, k, none⟩) hge.1 u)
            generalize bt mm k = x at *
            have z0 : 0 ≤ (y * 256 + x) / 10 := by omega
            have z1 : (y * 256 + x) / 10 ≤ 255 := by omega
            clear hD ha hst ho hbe DA DE
            go_wp2
            go_roundw
            case rel => exact ⟨k + 1, _, _, by omega, by rw [Int.natCast_add]; rfl, rfl, hs.out _ z0 z1, hbs.out _, HST⟩
            case measure => simp [intOf]; omega
          · obtain rfl : n = k := by omega
            obtain ⟨e1, e2⟩ := DE.out mm y hD.out
            rw [hv] at e1 e2
            subst e2
            have OW6 := Lib.hid ho
            have BE6 := Lib.hid hbe
            have HB6 := Lib.hid e1
            clear ho hbe e1 hD DA DE
            obtain ⟨d, hd⟩ : ∃ d, v % 10 = d := ⟨_, rfl⟩
            have hd9 : d < 10 := by omega
            rw [hd] at HNX ⊢
            clear hd
            rcases (by omega : d = 0 ∨ d = 1 ∨ d = 2 ∨ d = 3 ∨ d = 4 ∨ d = 5 ∨ d = 6 ∨ d = 7 ∨ d = 8 ∨ d = 9) with rfl | rfl | rfl | rfl | rfl | rfl | rfl | rfl | rfl | rfl
            all_goals
              go_wp2
              go_roundw
              case rel => exact ⟨_, mm, v / 10, congrArg Value.string (str_dig (by decide) []), OW6.out, HB6.out, BE6.out, HNX⟩
              case measure => (simp [strLen, ByteArray.size]; omega)
      · have hv1 : v ≠ 0 := by
          rcases hcond with h | h
          · exact absurd h ho0
          · exact h
        rw [if_neg hv1] at SG
        obtain ⟨S, hS⟩ : ∃ S : ByteArray, (⟨o.reverse.toArray⟩ : ByteArray) = S := ⟨_, rfl⟩
        have hSne : ¬ S = { data := #[] } := by
          rintro rfl
          injection hS with h
          simp at h
          exact ho0 h
        have hSz : S.size = o.length := by rw [← hS]; simp [ByteArray.size]
        have hs1 := str_ne hSne
        have hs2 := str_some hSne
        rw [hS]
        go_wp2_with fail
        go_must (go_fit FU.out)
        rintro e w6 ⟨A6, c6, rfl, hr6, hc6, hm6, hb6⟩
        have S2 := Lib.hid (SG.out w6 A6 c6 hr6)
        replace OW5 := Lib.hid (OW5.out.below hb6)
        replace BE5 := Lib.hid (two_belowK BE5.out hb6 BE5.out.size)
        clear FU SG hr6 hc6 hm6 hb6 hcond
        go_wp2_with fail
        go_must (go_fit S2.out)
        rintro e w7 ⟨rfl, rfl⟩
        have SZ := Lib.hid (fun (d : Nat) (hd : d < 10) => show strLen (.string (({ data := #[48, 49, 50, 51, 52, 53, 54, 55, 56, 57] } : ByteArray).extract d (d + 1) ++ S)) = o.length + 1 from by rw [← hS, str_dig hd]; simp [strLen, ByteArray.size])
        have MS : ∀ z : Nat, z = o.length + 1 → N - z < N - strLen (.string S) := fun z hz => by show N - z < N - S.size; omega
        clear S2 hs1 hs2 hSne
        go_wp2
        go_loopw [7, 8] (fun r i wr => ∃ (k : Nat) (mm : List UInt8) (y : Int), k ≤ n ∧ i = .int .i64 (k : Int) ∧ r = .int .i64 y ∧ Own wr w.heap.size A5 n c5 mm ∧ Below w.heap.size w wr ∧ Hid (Div10 m mm k y)) (fun _ i _ => n - (intOf i).toNat)
        case atStart => exact ⟨0, m, 0, Nat.zero_le _, rfl, rfl, OW5.out, BE5.out, D0⟩
        case round =>
          obtain ⟨k, mm, y, hk, rfl, rfl, ho, hbe, hD⟩ := hrel
          clear OW5 BE5 D0
          by_cases hltk : k < n
          · have hkz : (k : Int) < (n : Int) := by omega
            obtain ⟨ha, hst, y0, y1⟩ := DA.out mm k y hD.out hltk
            obtain ⟨g, rfl⟩ := ho.shape (by omega)
            have hge := Own.lt ho
            have cc := ho.cellAt (k := k) (by omega)
            have ff := ho.frozenAt k
            have b0 := bt_lo mm k
            have b1 := bt_hi mm k
            rw [← ha] at hst
            have HST := Lib.hid hst
            have hs := Lib.hid (fun x h0 h1 => ho.stored k (x := x) h0 h1)
            have hbs := Lib.hid (fun u => Below.setCell hbe (p := ⟨g, k, none⟩) hge.1 u)
            generalize bt mm k = x at *
            have z0 : 0 ≤ (y * 256 + x) / 10 := by omega
            have z1 : (y * 256 + x) / 10 ≤ 255 := by omega
            clear hD ha hst ho hbe DA DE
            go_wp2
            go_roundw
            case rel => exact ⟨k + 1, _, _, by omega, by rw [Int.natCast_add]; rfl, rfl, hs.out _ z0 z1, hbs.out _, HST⟩
            case measure => simp [intOf]; omega
          · obtain rfl : n = k := by omega
            obtain ⟨e1, e2⟩ := DE.out mm y hD.out
            rw [hv] at e1 e2
            subst e2
            have OW6 := Lib.hid ho
            have BE6 := Lib.hid hbe
            have HB6 := Lib.hid e1
            clear ho hbe e1 hD DA DE
            obtain ⟨d, hd⟩ : ∃ d, v % 10 = d := ⟨_, rfl⟩
            have hd9 : d < 10 := by omega
            rw [hd] at HNX ⊢
            clear hd
            rcases (by omega : d = 0 ∨ d = 1 ∨ d = 2 ∨ d = 3 ∨ d = 4 ∨ d = 5 ∨ d = 6 ∨ d = 7 ∨ d = 8 ∨ d = 9) with rfl | rfl | rfl | rfl | rfl | rfl | rfl | rfl | rfl | rfl
            all_goals
              go_wp2
              go_roundw
              case rel => exact ⟨_, mm, v / 10, congrArg Value.string (by rw [← hS]; exact str_dig (by decide) o), OW6.out, HB6.out, BE6.out, HNX⟩
              case measure => (first | exact MS _ (SZ.out 0 (by decide)) | exact MS _ (SZ.out 1 (by decide)) | exact MS _ (SZ.out 2 (by decide)) | exact MS _ (SZ.out 3 (by decide)) | exact MS _ (SZ.out 4 (by decide)) | exact MS _ (SZ.out 5 (by decide)) | exact MS _ (SZ.out 6 (by decide)) | exact MS _ (SZ.out 7 (by decide)) | exact MS _ (SZ.out 8 (by decide)) | exact MS _ (SZ.out 9 (by decide)))
    · have ho0 : o ≠ [] := fun h => hcond (.inl h)
      have hv1 : v = 0 := by
        rcases Nat.eq_zero_or_pos v with h | h
        · exact h
        · exact absurd (.inr (by omega)) hcond
      rw [if_pos hv1] at SG
      have FIN := Lib.hid (hF.out.stop ho0 hv1)
      have hfin := FF.out
      obtain ⟨S, hS⟩ : ∃ S : ByteArray, (⟨o.reverse.toArray⟩ : ByteArray) = S := ⟨_, rfl⟩
      have hSne : ¬ S = { data := #[] } := by
        rintro rfl
        injection hS with h
        simp at h
        exact ho0 h
      have hs1 := str_ne hSne
      have hs2 := str_some hSne
      have BE5 := Lib.hid hbe
      have hSz : S.size ≤ 6000 := by
        have h1 : S.size = o.length := by rw [← hS]; simp [ByteArray.size]
        have := hF.out.1
        omega
      rw [hS]
      clear ho hbe hfin
      go_wp2_with fail
      go_must (go_fit FU.out)
      rintro e w6 ⟨A6, c6, rfl, hr6, hc6, hm6, hb6⟩
      have S2 := Lib.hid (SG.out w6 A6 c6 hr6)
      replace BE5 := Lib.hid (two_belowK BE5.out hb6 BE5.out.size)
      clear FU SG hr6 hc6 hm6 hb6 hcond
      go_wp2_with fail
      go_must (go_fit S2.out)
      rintro e w7 ⟨rfl, rfl⟩
      clear S2
      go_wp2
      go_ret
      refine ⟨?_, BE5.out⟩
      rw [FF.out, FIN.out, ← hS]
      first | rfl | simp | exact congrArg (fun s => Ending.returned (Value.string s)) (str_sign _)

set_option maxRecDepth 100000 in
set_option maxHeartbeats 8000000 in
theorem refdecimal_neg {A : Option Addr} {n c B : Nat} {l : List UInt8} (w : World) (hr : Rd w B A n l) (hB : B ≤ w.heap.size) (hn : n ≤ 1999) (hv : validI l = true) (hg : 128 ≤ bt l 0) :
    Calls Try.prog 8 #[.slice A n c] w fun e w' => e = .returned (.string ⟨(decI l).toArray⟩) ∧ Below w.heap.size w w' := by
  have hl := hr.len
  have hp := valid_pos hv
  have V := Lib.hid (fun (X : World) (h : Below w.heap.size w X) => refvalid_any (c := c) X (hr.below (h.mono hB)) (Nat.le_trans hB h.size))
  rw [hv] at V
  have SI := Lib.hid (fun (X : World) (h : Below w.heap.size w X) => refsign_any (c := c) X (hr.below (h.mono hB)) (Nat.le_trans hB h.size) (by unfold maxLen; omega))
  have hs : signI l < 0 := (sign_lt hv).2 hg
  have FF := Lib.hid (show decI l = 45 :: decL (256 ^ l.length - be l) from by unfold decI; rw [if_neg (by simp [hv]), if_pos hg])
  obtain ⟨v0, hv0⟩ : ∃ v, 256 ^ l.length - be l = v := ⟨_, rfl⟩
  rw [hv0] at FF
  have hbl := be_lt l
  have HV0 := Lib.hid (show pw l.length - beI l = (v0 : Int) from by unfold pw beI; omega)
  have CS := Lib.hid (fun m k (h : ComR l m k) (hk : k < n) => ComR.step h (by omega))
  have CE := Lib.hid (fun m (h : ComR l m n) => ComR.stop (l := l) (m := m) (by rw [hl]; exact h))
  have C0 := Lib.hid (ComR.start l)
  have HLN := Lib.hid hl
  have ow0 : Own (w.alloc (.cells #[] 5)) w.heap.size (some ⟨w.heap.size, 0, none⟩) 0 0 [] := by
    have h := Own.lit (base := w.heap.size) w [] (Nat.le_refl _) (Nat.zero_le _)
    simpa [vs] using h
  have rc0 := hr.alloc hB (.cells #[] 5)
  generalize signI l = sg at *
  generalize decI l = DI at *
  have hpn : 1 ≤ n := by omega
  clear hr hg hv hv0 hbl
  go_enter Try.func8, Try.ntmps8
  go_wp2_with fail
  go_must (go_fit (V.out _ (Below.refl _ _)))
  rintro e w' ⟨rfl, rfl⟩
  go_wp2_with (first | (at_builtin; go_must (refine app rfl (.tmp 13) (.tmp 14) rfl rfl ow0 rfl rc0 (by first | omega | (simp; omega) | simp) (by first | omega | (simp; omega) | simp) ?_); intro A5 c5 w1 ho1 hg1 hb1 hs1))
  simp only [List.length_nil, Nat.zero_add, List.nil_append] at ho1
  have hx : Below w.heap.size w w1 := ((Below.refl _ _).alloc (Nat.le_refl _) (.cells #[] 5)).trans hb1
  have OWL := Lib.hid ho1
  have BEL := Lib.hid hx
  clear ow0 rc0 hg1 hb1 hs1 ho1 hx
  go_must (go_fit (SI.out _ BEL.out))
  rintro e w' ⟨rfl, rfl⟩
  go_wp2
  go_loopw [5] (fun i wr => ∃ (k : Nat) (mm : List UInt8), i = .int .i64 (k : Int) ∧ k ≤ n ∧ Own wr w.heap.size A5 n c5 mm ∧ Below w.heap.size w wr ∧ Hid (ComR l mm k)) (fun i _ => n - (intOf i).toNat)
  case atStart => exact ⟨0, l, rfl, Nat.zero_le _, OWL.out, BEL.out, C0⟩
  case round =>
    obtain ⟨k, mm, rfl, hk, ho, hbe, hC⟩ := hrel
    clear OWL BEL C0
    by_cases hlt : k < n
    · have hkz : (k : Int) < (n : Int) := by omega
      obtain ⟨g, rfl⟩ := ho.shape (by omega)
      have hge := Own.lt ho
      have cc := ho.cellAt (k := k) (by omega)
      have ff := ho.frozenAt k
      have b0 := bt_lo mm k
      have b1 := bt_hi mm k
      have hst := Lib.hid (CS.out mm k hC.out hlt)
      have hs' := Lib.hid (fun x h0 h1 => ho.stored k (x := x) h0 h1)
      have hbs := Lib.hid (fun u => Below.setCell hbe (p := ⟨g, k, none⟩) hge.1 u)
      generalize bt mm k = x at *
      clear ho hbe hC CS CE
      go_wp2
      go_roundw
      case rel => exact ⟨k + 1, _, by rw [Int.natCast_add]; rfl, by omega, hs'.out _ (by omega) (by omega), hbs.out _, hst⟩
      case measure => simp [intOf]; omega
    · obtain ⟨e1, e2⟩ := CE.out mm (by rw [show n = k from by omega]; exact hC.out)
      rename World => wz
      have PL := Lib.hid (plus_any (c := c5) 1 wz ho.rd (Nat.le_refl _) (by omega) (by omega) (by omega) (by omega))
      have zz := hbe.size
      have BEL := Lib.hid hbe
      have E2 := Lib.hid e2
      have hml0 := ho.len
      clear ho hbe hC CS CE e1 e2
      go_wp2_with fail
      go_must (go_fit PL.out)
      rintro e wy ⟨up, Ap, cq, rfl, hop, hbp, hvp, hl1, hl2⟩
      obtain ⟨np, hnp⟩ : ∃ np, up.length = np := ⟨_, rfl⟩
      rw [hnp] at hop ⊢
      have OW := Lib.hid (hop.mono zz)
      have BE := Lib.hid (two_belowK BEL.out hbp zz)
      have hnp5 : np ≤ 2000 := by omega
      have hnp1 : 1 ≤ np := by omega
      have HV := Lib.hid (show be up = v0 from by
        have h1 := HV0.out
        have h2 := E2.out
        have h3 : ((be up : Nat) : Int) = beI up := rfl
        omega)
      obtain ⟨N, hN⟩ : ∃ N, 3 * np = N := ⟨_, rfl⟩
      have hN1 : 1 ≤ N := by omega
      have hN2 : N ≤ 6000 := by omega
      have FR0 := Lib.hid (show FrV v0 N v0 [] from ⟨Nat.zero_le _, by have := be_dec up; rw [HV.out, hnp, hN] at this; exact this, .inl (DG.start _)⟩)
      clear PL hop hbp hvp hl1 hl2 hN BEL E2 HV0 hnp zz
      go_wp2
      go_loopw [6] (fun s wr => ∃ (o m : List UInt8) (v : Nat), s = .string ⟨o.reverse.toArray⟩ ∧ Own wr w.heap.size Ap np cq m ∧ be m = v ∧ Below w.heap.size w wr ∧ Hid (FrV v0 N v o)) (fun s _ => N - strLen s)
      case atStart => exact ⟨[], up, v0, rfl, OW.out, HV.out, BE.out, FR0⟩
      case round =>
        obtain ⟨o, m, v, rfl, ho, hv, hbe, hF⟩ := hrel
        rename World => w5
        clear OW HV BE FR0
        have hml := ho.len
        have FU := Lib.hid (reffromuns_any (c := cq) w5 ho.rd (Nat.le_refl _) (by omega))
        have SG := Lib.hid (fun (X : World) (A : Option Addr) (c : Nat) (h : Rd X X.heap.size A (unsL m).length (unsL m)) => refsign_any (c := c) X h (Nat.le_refl _) (by have := (uns_ok m).2.2.1; unfold maxLen; omega))
        rw [uns_sign, hv] at SG
        by_cases hcond : o = [] ∨ v ≠ 0
        · obtain ⟨hlt, hnx⟩ := hF.out.next hN1 hcond
          have HNX := Lib.hid hnx
          have D0 := Lib.hid (Div10.start m)
          have DA := Lib.hid (fun mm k r (h : Div10 m mm k r) (hi : k < np) => And.intro (Div10.at_ h (by omega)) (And.intro (Div10.step h (by omega)) (And.intro h.2.2.2.1 h.2.2.2.2)))
          have DE := Lib.hid (fun mm r (h : Div10 m mm np r) => Div10.stop (l := m) (m := mm) (r := r) (by rw [hml]; exact h))
          have OW5 := Lib.hid ho
          have BE5 := Lib.hid hbe
          clear hF hnx ho hbe
          by_cases ho0 : o = []
          · subst ho0
            clear FU SG hcond
            have STR := Lib.hid (show (⟨([] : List UInt8).reverse.toArray⟩ : ByteArray) = { data := #[] } from rfl)
            rw [STR.out]
            go_wp2
            go_loopw [7, 8] (fun r i wr => ∃ (k : Nat) (mm : List UInt8) (y : Int), k ≤ np ∧ i = .int .i64 (k : Int) ∧ r = .int .i64 y ∧ Own wr w.heap.size Ap np cq mm ∧ Below w.heap.size w wr ∧ Hid (Div10 m mm k y)) (fun _ i _ => np - (intOf i).toNat)
            case atStart => exact ⟨0, m, 0, Nat.zero_le _, rfl, rfl, OW5.out, BE5.out, D0⟩
            case round =>
              obtain ⟨k, mm, y, hk, rfl, rfl, ho, hbe, hD⟩ := hrel
              clear OW5 BE5 D0
              by_cases hltk : k < np
              · have hkz : (k : Int) < (np : Int) := by omega
                obtain ⟨ha, hst, y0, y1⟩ := DA.out mm k y hD.out hltk
                obtain ⟨g, rfl⟩ := ho.shape (by omega)
                have hge := Own.lt ho
                have cc := ho.cellAt (k := k) (by omega)
                have ff := ho.frozenAt k
                have b0 := bt_lo mm k
                have b1 := bt_hi mm k
                rw [← ha] at hst
                have HST := Lib.hid hst
                have hs := Lib.hid (fun x h0 h1 => ho.stored k (x := x) h0 h1)
                have hbs := Lib.hid (fun u => Below.setCell hbe (p := ⟨g, k, none⟩) hge.1 u)
                generalize bt mm k = x at *
                have z0 : 0 ≤ (y * 256 + x) / 10 := by omega
                have z1 : (y * 256 + x) / 10 ≤ 255 := by omega
                clear hD ha hst ho hbe DA DE
                go_wp2
                go_roundw
                case rel => exact ⟨k + 1, _, _, by omega, by rw [Int.natCast_add]; rfl, rfl, hs.out _ z0 z1, hbs.out _, HST⟩
                case measure => simp [intOf]; omega
              · obtain rfl : np = k := by omega
                obtain ⟨e1, e2⟩ := DE.out mm y hD.out
                rw [hv] at e1 e2
                subst e2
                have OW6 := Lib.hid ho
                have BE6 := Lib.hid hbe
                have HB6 := Lib.hid e1
                clear ho hbe e1 hD DA DE
                obtain ⟨d, hd⟩ : ∃ d, v % 10 = d := ⟨_, rfl⟩
                have hd9 : d < 10 := by omega
                rw [hd] at HNX ⊢
                clear hd
                rcases (by omega : d = 0 ∨ d = 1 ∨ d = 2 ∨ d = 3 ∨ d = 4 ∨ d = 5 ∨ d = 6 ∨ d = 7 ∨ d = 8 ∨ d = 9) with rfl | rfl | rfl | rfl | rfl | rfl | rfl | rfl | rfl | rfl
                all_goals
                  go_wp2
                  go_roundw
                  case rel => exact ⟨_, mm, v / 10, congrArg Value.string (str_dig (by decide) []), OW6.out, HB6.out, BE6.out, HNX⟩
                  case measure => (simp [strLen, ByteArray.size]; omega)
          · have hv1 : v ≠ 0 := by
              rcases hcond with h | h
              · exact absurd h ho0
              · exact h
            rw [if_neg hv1] at SG
            obtain ⟨S, hS⟩ : ∃ S : ByteArray, (⟨o.reverse.toArray⟩ : ByteArray) = S := ⟨_, rfl⟩
            have hSne : ¬ S = { data := #[] } := by
              rintro rfl
              injection hS with h
              simp at h
              exact ho0 h
            have hSz : S.size = o.length := by rw [← hS]; simp [ByteArray.size]
            have hs1 := str_ne hSne
            have hs2 := str_some hSne
            rw [hS]
            go_wp2_with fail
            go_must (go_fit FU.out)
            rintro e w6 ⟨A6, c6, rfl, hr6, hc6, hm6, hb6⟩
            have S2 := Lib.hid (SG.out w6 A6 c6 hr6)
            replace OW5 := Lib.hid (OW5.out.below hb6)
            replace BE5 := Lib.hid (two_belowK BE5.out hb6 BE5.out.size)
            clear FU SG hr6 hc6 hm6 hb6 hcond
            go_wp2_with fail
            go_must (go_fit S2.out)
            rintro e w7 ⟨rfl, rfl⟩
            have SZ := Lib.hid (fun (d : Nat) (hd : d < 10) => show strLen (.string (({ data := #[48, 49, 50, 51, 52, 53, 54, 55, 56, 57] } : ByteArray).extract d (d + 1) ++ S)) = o.length + 1 from by rw [← hS, str_dig hd]; simp [strLen, ByteArray.size])
            have MS : ∀ z : Nat, z = o.length + 1 → N - z < N - strLen (.string S) := fun z hz => by show N - z < N - S.size; omega
            clear S2 hs1 hs2 hSne
            go_wp2
            go_loopw [7, 8] (fun r i wr => ∃ (k : Nat) (mm : List UInt8) (y : Int), k ≤ np ∧ i = .int .i64 (k : Int) ∧ r = .int .i64 y ∧ Own wr w.heap.size Ap np cq mm ∧ Below w.heap.size w wr ∧ Hid (Div10 m mm k y)) (fun _ i _ => np - (intOf i).toNat)
            case atStart => exact ⟨0, m, 0, Nat.zero_le _, rfl, rfl, OW5.out, BE5.out, D0⟩
            case round =>
              obtain ⟨k, mm, y, hk, rfl, rfl, ho, hbe, hD⟩ := hrel
              clear OW5 BE5 D0
              by_cases hltk : k < np
              · have hkz : (k : Int) < (np : Int) := by omega
                obtain ⟨ha, hst, y0, y1⟩ := DA.out mm k y hD.out hltk
                obtain ⟨g, rfl⟩ := ho.shape (by omega)
                have hge := Own.lt ho
                have cc := ho.cellAt (k := k) (by omega)
                have ff := ho.frozenAt k
                have b0 := bt_lo mm k
                have b1 := bt_hi mm k
                rw [← ha] at hst
                have HST := Lib.hid hst
                have hs := Lib.hid (fun x h0 h1 => ho.stored k (x := x) h0 h1)
                have hbs := Lib.hid (fun u => Below.setCell hbe (p := ⟨g, k, none⟩) hge.1 u)
                generalize bt mm k = x at *
                have z0 : 0 ≤ (y * 256 + x) / 10 := by omega
                have z1 : (y * 256 + x) / 10 ≤ 255 := by omega
                clear hD ha hst ho hbe DA DE
                go_wp2
                go_roundw
                case rel => exact ⟨k + 1, _, _, by omega, by rw [Int.natCast_add]; rfl, rfl, hs.out _ z0 z1, hbs.out _, HST⟩
                case measure => simp [intOf]; omega
              · obtain rfl : np = k := by omega
                obtain ⟨e1, e2⟩ := DE.out mm y hD.out
                rw [hv] at e1 e2
                subst e2
                have OW6 := Lib.hid ho
                have BE6 := Lib.hid hbe
                have HB6 := Lib.hid e1
                clear ho hbe e1 hD DA DE
                obtain ⟨d, hd⟩ : ∃ d, v % 10 = d := ⟨_, rfl⟩
                have hd9 : d < 10 := by omega
                rw [hd] at HNX ⊢
                clear hd
                rcases (by omega : d = 0 ∨ d = 1 ∨ d = 2 ∨ d = 3 ∨ d = 4 ∨ d = 5 ∨ d = 6 ∨ d = 7 ∨ d = 8 ∨ d = 9) with rfl | rfl | rfl | rfl | rfl | rfl | rfl | rfl | rfl | rfl
                all_goals
                  go_wp2
                  go_roundw
                  case rel => exact ⟨_, mm, v / 10, congrArg Value.string (by rw [← hS]; exact str_dig (by decide) o), OW6.out, HB6.out, BE6.out, HNX⟩
                  case measure => (first | exact MS _ (SZ.out 0 (by decide)) | exact MS _ (SZ.out 1 (by decide)) | exact MS _ (SZ.out 2 (by decide)) | exact MS _ (SZ.out 3 (by decide)) | exact MS _ (SZ.out 4 (by decide)) | exact MS _ (SZ.out 5 (by decide)) | exact MS _ (SZ.out 6 (by decide)) | exact MS _ (SZ.out 7 (by decide)) | exact MS _ (SZ.out 8 (by decide)) | exact MS _ (SZ.out 9 (by decide)))
        · have ho0 : o ≠ [] := fun h => hcond (.inl h)
          have hv1 : v = 0 := by
            rcases Nat.eq_zero_or_pos v with h | h
            · exact h
            · exact absurd (.inr (by omega)) hcond
          rw [if_pos hv1] at SG
          have FIN := Lib.hid (hF.out.stop ho0 hv1)
          have hfin := FF.out
          obtain ⟨S, hS⟩ : ∃ S : ByteArray, (⟨o.reverse.toArray⟩ : ByteArray) = S := ⟨_, rfl⟩
          have hSne : ¬ S = { data := #[] } := by
            rintro rfl
            injection hS with h
            simp at h
            exact ho0 h
          have hs1 := str_ne hSne
          have hs2 := str_some hSne
          have BE5 := Lib.hid hbe
          have hSz : S.size ≤ 6000 := by
            have h1 : S.size = o.length := by rw [← hS]; simp [ByteArray.size]
            have := hF.out.1
            omega
          rw [hS]
          clear ho hbe hfin
          go_wp2_with fail
          go_must (go_fit FU.out)
          rintro e w6 ⟨A6, c6, rfl, hr6, hc6, hm6, hb6⟩
          have S2 := Lib.hid (SG.out w6 A6 c6 hr6)
          replace BE5 := Lib.hid (two_belowK BE5.out hb6 BE5.out.size)
          clear FU SG hr6 hc6 hm6 hb6 hcond
          go_wp2_with fail
          go_must (go_fit S2.out)
          rintro e w7 ⟨rfl, rfl⟩
          clear S2
          go_wp2
          go_ret
          refine ⟨?_, BE5.out⟩
          rw [FF.out, FIN.out, ← hS]
          first | rfl | simp | exact congrArg (fun s => Ending.returned (Value.string s)) (str_sign _)
/-- DECIMAL of the reference -/
theorem refdecimal_any {A : Option Addr} {n c B : Nat} {l : List UInt8} (w : World) (hr : Rd w B A n l) (hB : B ≤ w.heap.size) (hn : n ≤ 1999) :
    Calls Try.prog 8 #[.slice A n c] w fun e w' => e = .returned (.string ⟨(decI l).toArray⟩) ∧ Below w.heap.size w w' := by
  cases hv : validI l with
  | true =>
    by_cases hg : 128 ≤ bt l 0
    · exact refdecimal_neg w hr hB hn hv hg
    · exact refdecimal_pos w hr hB (by omega) hv hg
  | false =>
    have V := Lib.hid (refvalid_any (c := c) w hr hB)
    rw [hv] at V
    have F := Lib.hid (show decI l = [] from by unfold decI; rw [if_pos hv])
    rw [F.out]
    clear hr
    go_enter Try.func8, Try.ntmps8
    go_wp2_with fail
    go_must (go_fit V.out)
    rintro e w' ⟨rfl, rfl⟩
    go_wp2
    go_ret
    exact ⟨rfl, (by repeat' (first | (with_reducible exact Below.refl _ _) | (with_reducible assumption) | (with_reducible refine below_drewN ?_ _) | (with_reducible refine Below.drew ?_) | (with_reducible refine Below.alloc ?_ ?_ _) | (with_reducible refine Below.setCell ?_ ?_ _) | go_size))⟩
end Go.Proofs.Ytiogcdpmgomllaa.Int4
