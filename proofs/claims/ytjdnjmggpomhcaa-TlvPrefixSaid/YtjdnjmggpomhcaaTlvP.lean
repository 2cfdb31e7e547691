/- The walk of TlvPrefix. -/
import Derived.Test.YtjdnjmggpomhcaaTlvN
set_option linter.unusedSimpArgs false
set_option linter.unusedVariables false
namespace Go.Proofs.Ytjdnjmggpomhcaa
open Go.RowKit Kit Tlv

set_option maxRecDepth 100000 in
set_option maxHeartbeats 8000000 in
theorem TlvPrefix.walk (c n : Int) (b : Bool) (c' n' : Int) (b' : Bool) (a1 : Option Addr) (len1 cap1 : Nat) (l1 : List UInt8) (a2 : Option Addr) (len2 cap2 : Nat) (l2 : List UInt8) (w : World)
    (rd1 : Rd w w.heap.size a1 len1 l1) (rd2 : Rd w w.heap.size a2 len2 l2) :
    Calls Try.prog 12 #[.agg #[.int .i64 c, .int .i64 n, .bool b], .agg #[.int .i64 c', .int .i64 n', .bool b'], .agg #[.slice a1 len1 cap1, .slice a2 len2 cap2]] w fun e w' => e = .returned (.bool true) ∧ Below w.heap.size w w' := by
  obtain ⟨o1, ho1⟩ : ∃ o : Obj, o = .cells #[.int .i64 c, .int .i64 n, .bool b] 58 := ⟨_, rfl⟩
  have bx3 : ∀ (w1 : World), Below (((w.alloc (.cells #[.int .i64 c, .int .i64 n, .bool b] 58)).alloc (.cells #[.int .i64 c', .int .i64 n', .bool b'] 58)).alloc (.cells #[.slice a1 len1 cap1, .slice a2 len2 cap2] 64)).heap.size (((w.alloc (.cells #[.int .i64 c, .int .i64 n, .bool b] 58)).alloc (.cells #[.int .i64 c', .int .i64 n', .bool b'] 58)).alloc (.cells #[.slice a1 len1 cap1, .slice a2 len2 cap2] 64)) w1 →
      w1.heap[w.heap.size]? = some (.cells #[.int .i64 c, .int .i64 n, .bool b] 58) ∧ w1.heap[w.heap.size + 1]? = some (.cells #[.int .i64 c', .int .i64 n', .bool b'] 58) ∧ w1.heap[w.heap.size + 1 + 1]? = some (.cells #[.slice a1 len1 cap1, .slice a2 len2 cap2] 64) ∧ Below w.heap.size w w1 := by
    intro w1 hb
    refine ⟨(hb.block _ (by go_size)).trans (bk_old (bk_old (bk_new rfl))), (hb.block _ (by go_size)).trans (bk_old (bk_new (by simp))), (hb.block _ (by go_size)).trans (bk_new (by simp)), ?_⟩
    exact ((((Below.refl _ _).alloc (Nat.le_refl _) _).alloc (by simp) _).alloc (by simp; omega) _).trans (hb.mono (by simp; omega))
  have BX := Lib.hid bx3
  clear bx3 ho1 o1
  have g2 : (2000 : Int) < (len1 : Int) ∨ ¬ (2000 : Int) < (len1 : Int) := by omega
  by_cases hbig : 2000 < len1 ∨ 2000 < len2
  · by_cases g0 : 2000 < len1 <;> by_cases g1 : 2000 < len2
    all_goals first
      | (exfalso; omega)
      | (clear hbig g2
         go_enter Try.func12, Try.ntmps12
         go_wp2_with fail
         refine (awake2_any _).mono ?_
         rintro e w1 ⟨rfl, hb1⟩
         obtain ⟨t1, t2, t3, bel⟩ := BX.out _ hb1
         clear hb1 t1 t2
         obtain ⟨q0, q1⟩ := cells2 t3
         go_wp2_with fail
         refine (awake2_any _).mono ?_
         rintro e w2 ⟨rfl, hb2⟩
         go_wp2_with fail
         go_ret
         exact ⟨rfl, two_below bel hb2 bel.size⟩)
  have g0 : ¬ 2000 < len1 := by omega
  have g1 : ¬ 2000 < len2 := by omega
  clear hbig g2
  have E1 := Lib.hid (fun w (h : Rd w w.heap.size a1 len1 l1) => encode_any (cp := cap1) c n b w h (Nat.le_refl _) (by omega))
  have E2 := Lib.hid (fun w (h : Rd w w.heap.size a2 len2 l2) => encode_any (cp := cap2) c' n' b' w h (Nat.le_refl _) (by omega))
  have hl1 := rd1.len
  have hl2 := rd2.len
  by_cases z1 : encCode c n l1.length = 0
  · by_cases z2 : encCode c' n' l2.length = 0
    · have CU := Lib.hid (fun e => enc_cut (b := b) (b' := b') z1 z2 e)
      have k1 := enc_len (b := b) z1
      have k2 := enc_len (b := b') z2
      have lb1 := len_bd (l1.length : Int)
      have lb2 := len_bd (l2.length : Int)
      rw [z1] at E1
      rw [z2] at E2
      generalize encL c b n l1 = L at *
      generalize encL c' b' n' l2 = M at *
      obtain ⟨ka, hka⟩ : ∃ k, L.length = k := ⟨_, rfl⟩
      obtain ⟨kb, hkb⟩ : ∃ k, M.length = k := ⟨_, rfl⟩
      rw [hka] at E1 CU k1
      rw [hkb] at E2 CU k2
      have ha : ka ≤ 3000 := by omega
      have hb' : kb ≤ 3000 := by omega
      have HL1 := Lib.hid hl1
      have HL2 := Lib.hid hl2
      clear z1 z2 k1 k2 lb1 lb2 hka hkb hl1 hl2
      go_enter Try.func12, Try.ntmps12
      go_upto_region 3 with (first | (go_at_call 35; refine (awake2_any _).mono ?_; rintro e w1 ⟨rfl, hb1⟩; obtain ⟨t1, t2, t3, bel⟩ := BX.out _ hb1; clear hb1; obtain ⟨q0, q1⟩ := cells2 t3))
      have d1 := rd1.past bel
      have d2 := rd2.past bel
      clear rd1 rd2 BX
      obtain ⟨x0, x1, x2⟩ := cells3 t1
      go_upto_region 4 with (first | (go_at_call 46; refine (E1.out _ d1).mono ?_; rintro e w2 ⟨A2, c2, rfl, o2, hb⟩))
      have r2 := o2.rd
      have cp2 := o2.cap
      replace d1 := d1.past hb
      replace d2 := d2.past hb
      replace t1 := stay t1 hb
      replace t2 := stay t2 hb
      replace t3 := stay t3 hb
      replace bel := two_below bel hb bel.size
      clear hb o2 E1 x0 x1 x2 q0 q1
      obtain ⟨q0, q1⟩ := cells2 t3
      obtain ⟨y0, y1, y2⟩ := cells3 t2
      go_upto_region 5 with (first | (go_at_call 46; refine (E2.out _ d2).mono ?_; rintro e w3 ⟨A3, c3, rfl, o3, hb⟩))
      have r3 := o3.rd
      have cp3 := o3.cap
      replace r2 := r2.past hb
      replace d1 := d1.past hb
      replace d2 := d2.past hb
      replace t1 := stay t1 hb
      replace t2 := stay t2 hb
      replace t3 := stay t3 hb
      replace bel := two_below bel hb bel.size
      clear hb o3 E2 y0 y1 y2 q0 q1
      obtain ⟨q0, q1⟩ := cells2 t3
      obtain ⟨x0, x1, x2⟩ := cells3 t1
      obtain ⟨y0, y1, y2⟩ := cells3 t2
      clear t1 t2 t3
      obtain ⟨mn, hmn⟩ : ∃ m, min ka kb = m := ⟨_, rfl⟩
      have hma : mn ≤ ka := by omega
      have hmb : mn ≤ kb := by omega
      have hmi : (if kb < ka then (kb : Int) else (ka : Int)) = (mn : Int) := by split <;> omega
      rw [hmn] at CU
      have R2 := Lib.hid (r2.take hma)
      have R3 := Lib.hid (r3.take hmb)
      clear hmn r2 r3
      go_upto_region 8 with fail
      clear hmi
      have v1 : (mn : Int) ≤ (c2 : Int) := by omega
      have v2 : (mn : Int) ≤ (c3 : Int) := by omega
      have v3 : (0 : Int) ≤ (mn : Int) := by omega
      by_cases hcut : L.take mn = M.take mn
      · obtain ⟨rfl, rfl, rfl, rfl⟩ := CU.out hcut
        have B1 := Lib.hid (fun cA cB m => Cur.bytes_any A2 A3 mn cA mn cB _ _ (w3.drewN m) (R2.out.drewN m) (R3.out.drewN m))
        rw [hcut, Cur.eqB_self] at B1
        have B2 := Lib.hid (fun cA cB m => Cur.bytes_any a1 a2 len1 cA len2 cB _ _ (w3.drewN m) (d1.drewN m) (d2.drewN m))
        rw [Cur.eqB_self] at B2
        go_quiet (first | (go_at_call 21; (with_reducible exact Kit.quiet_same (B1.out _ _ _))) | (go_at_call 21; (with_reducible exact Kit.quiet_same (B2.out _ _ _))))
        go_wp2
        go_ret
        exact ⟨(by first | rfl | exact ret_bool (by simp)), (by repeat' (first | (with_reducible exact Below.refl _ _) | (with_reducible assumption) | (with_reducible refine below_drewN ?_ _) | (with_reducible refine Below.drew ?_) | (with_reducible refine Below.alloc ?_ ?_ _) | (with_reducible refine Below.setCell ?_ ?_ _) | go_size))⟩
      · have B1 := Lib.hid (fun cA cB m => Cur.bytes_any A2 A3 mn cA mn cB _ _ (w3.drewN m) (R2.out.drewN m) (R3.out.drewN m))
        rw [show Cur.eqB (L.take mn) (M.take mn) = false from decide_eq_false hcut] at B1
        go_quiet (first | (go_at_call 21; (with_reducible exact Kit.quiet_same (B1.out _ _ _))))
        go_wp2
        go_ret
        exact ⟨(by first | rfl | exact ret_bool (by simp)), (by repeat' (first | (with_reducible exact Below.refl _ _) | (with_reducible assumption) | (with_reducible refine below_drewN ?_ _) | (with_reducible refine Below.drew ?_) | (with_reducible refine Below.alloc ?_ ?_ _) | (with_reducible refine Below.setCell ?_ ?_ _) | go_size))⟩
    · have z2' : encCode c' n' l2.length = 9 := by have := encCode_01 c' n' l2.length; omega
      have el := enc_nil b' l2 z2'
      have k1 := enc_len (b := b) z1
      rw [z1] at E1
      rw [el, z2'] at E2
      generalize encL c b n l1 = L at *
      obtain ⟨ka, hka⟩ : ∃ k, L.length = k := ⟨_, rfl⟩
      rw [hka] at E1 k1
      have ha : ¬ (ka : Int) = 0 := by omega
      simp only [List.length_nil] at E2
      clear z1 z2 z2' k1 el hka hl1 hl2
      go_enter Try.func12, Try.ntmps12
      go_upto_region 3 with (first | (go_at_call 35; refine (awake2_any _).mono ?_; rintro e w1 ⟨rfl, hb1⟩; obtain ⟨t1, t2, t3, bel⟩ := BX.out _ hb1; clear hb1; obtain ⟨q0, q1⟩ := cells2 t3))
      have d1 := rd1.past bel
      have d2 := rd2.past bel
      clear rd1 rd2 BX
      obtain ⟨x0, x1, x2⟩ := cells3 t1
      go_upto_region 4 with (first | (go_at_call 46; refine (E1.out _ d1).mono ?_; rintro e w2 ⟨A2, c2, rfl, o2, hb⟩))
      replace d2 := d2.past hb
      replace t2 := stay t2 hb
      replace t3 := stay t3 hb
      replace bel := two_below bel hb bel.size
      clear hb o2 E1 x0 x1 x2 q0 q1
      obtain ⟨q0, q1⟩ := cells2 t3
      obtain ⟨y0, y1, y2⟩ := cells3 t2
      go_upto_region 5 with (first | (go_at_call 46; refine (E2.out _ d2).mono ?_; rintro e w3 ⟨A3, c3, rfl, o3, hb⟩))
      replace bel := two_below bel hb bel.size
      clear hb o3 E2 y0 y1 y2 q0 q1
      go_wp2
      go_ret
      exact ⟨(by first | rfl | exact ret_bool (by simp) | exact ret_bool (by simp; omega)), bel⟩
  · have z1' : encCode c n l1.length = 9 := by have := encCode_01 c n l1.length; omega
    have el := enc_nil b l1 z1'
    have zz := encCode_01 c' n' l2.length
    rw [el, z1'] at E1
    generalize encL c' b' n' l2 = M at *
    generalize encCode c' n' l2.length = z2 at *
    obtain ⟨kb, hkb⟩ : ∃ k, M.length = k := ⟨_, rfl⟩
    rw [hkb] at E2
    simp only [List.length_nil] at E1
    clear z1 z1' el hkb hl1 hl2
    go_enter Try.func12, Try.ntmps12
    go_upto_region 3 with (first | (go_at_call 35; refine (awake2_any _).mono ?_; rintro e w1 ⟨rfl, hb1⟩; obtain ⟨t1, t2, t3, bel⟩ := BX.out _ hb1; clear hb1; obtain ⟨q0, q1⟩ := cells2 t3))
    have d1 := rd1.past bel
    have d2 := rd2.past bel
    clear rd1 rd2 BX
    obtain ⟨x0, x1, x2⟩ := cells3 t1
    go_upto_region 4 with (first | (go_at_call 46; refine (E1.out _ d1).mono ?_; rintro e w2 ⟨A2, c2, rfl, o2, hb⟩))
    replace d2 := d2.past hb
    replace t2 := stay t2 hb
    replace t3 := stay t3 hb
    replace bel := two_below bel hb bel.size
    clear hb o2 E1 x0 x1 x2 q0 q1
    obtain ⟨q0, q1⟩ := cells2 t3
    obtain ⟨y0, y1, y2⟩ := cells3 t2
    go_upto_region 5 with (first | (go_at_call 46; refine (E2.out _ d2).mono ?_; rintro e w3 ⟨A3, c3, rfl, o3, hb⟩))
    replace bel := two_below bel hb bel.size
    clear hb o3 E2 y0 y1 y2 q0 q1
    go_wp2
    go_ret
    exact ⟨(by first | rfl | exact ret_bool (by simp) | exact ret_bool (by simp; omega)), bel⟩
end Go.Proofs.Ytjdnjmggpomhcaa
