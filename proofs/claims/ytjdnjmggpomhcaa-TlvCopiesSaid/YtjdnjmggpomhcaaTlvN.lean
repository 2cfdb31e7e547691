/- The walk of TlvEncodes. -/
import Derived.Test.YtjdnjmggpomhcaaTlvM
set_option linter.unusedSimpArgs false
set_option linter.unusedVariables false
namespace Go.Proofs.Ytjdnjmggpomhcaa
open Go.RowKit Kit Tlv

theorem Tlv.encCode_01 (c n : Int) (k : Nat) : encCode c n k = 0 ∨ encCode c n k = 9 := by
  unfold encCode
  rcases idCode_01 c n with h | h <;> rw [h]
  · rw [if_neg (by omega)]; exact lenCode_01 k
  · rw [if_pos (by omega)]; exact .inr rfl
theorem Tlv.enc_nil {c n : Int} (b : Bool) (l : List UInt8) (h : encCode c n l.length = 9) : encL c b n l = [] := by
  unfold encL; rw [if_pos (by omega)]
theorem cells3 {w : World} {b : Nat} {x0 x1 x2 : Value} {t : TypeId} (h : w.heap[b]? = some (.cells #[x0, x1, x2] t (0, 0))) :
    w.cell? ⟨b, 0, none⟩ = some x0 ∧ w.cell? ⟨b, 1, none⟩ = some x1 ∧ w.cell? ⟨b, 2, none⟩ = some x2 := by
  refine ⟨?_, ?_, ?_⟩ <;> (rw [cell_of_row w b _ _ _ _ h]; rfl)

set_option maxRecDepth 100000 in
set_option maxHeartbeats 4000000 in
theorem TlvEncodes.walk (c n : Int) (b : Bool) (a1 : Option Addr) (len1 cap1 : Nat) (l1 : List UInt8) (a2 : Option Addr) (len2 cap2 : Nat) (l2 : List UInt8) (w : World)
    (rd1 : Rd w w.heap.size a1 len1 l1) (hc1 : len1 ≤ cap1) (hm1 : cap1 ≤ maxLen) (rd2 : Rd w w.heap.size a2 len2 l2) (hc2 : len2 ≤ cap2) (hm2 : cap2 ≤ maxLen) :
    Calls Try.prog 10 #[.agg #[.int .i64 c, .int .i64 n, .bool b], .slice a1 len1 cap1, .slice a2 len2 cap2] w fun e w' => e = .returned (.bool true) ∧ Below w.heap.size w w' := by
  clear hc1 hm1 hc2 hm2
  by_cases hbig : 70000 < len1 ∨ 2000 < len2
  · by_cases g0 : 70000 < len1 <;> by_cases g1 : 2000 < len2
    all_goals first
      | (exfalso; omega)
      | (clear hbig
         go_enter Try.func10, Try.ntmps10
         go_wp2_with fail
         refine (awake2_any _).mono ?_
         rintro e w1 ⟨rfl, hb1⟩
         go_wp2_with fail
         refine (awake2_any _).mono ?_
         rintro e w2 ⟨rfl, hb2⟩
         go_wp2_with fail
         go_ret
         exact ⟨rfl, (Kit.bel1 hb1).trans (hb2.mono (Kit.bel1 hb1).size)⟩)
  have g0 : ¬ 70000 < len1 := by omega
  have g1 : ¬ 2000 < len2 := by omega
  clear hbig
  have EN := Lib.hid (fun w (h : Rd w w.heap.size a1 len1 l1) => encode_any (cp := cap1) c n b w h (Nat.le_refl _) (by omega))
  have SN := Lib.hid (fun w (h : Rd w w.heap.size a1 len1 l1) => refencode_any (cp := cap1) c n b w h (Nat.le_refl _) (by omega))
  have hl := rd1.len
  rw [hl] at EN SN
  have HL2 := Lib.hid rd2.len
  rcases encCode_01 c n len1 with lc | lc
  · have PX := Lib.hid (nx_enc (b := b) (l := l1) (by rw [hl]; exact lc) l2)
    have el := enc_len (b := b) (l := l1) (by rw [hl]; exact lc)
    have lb := len_bd (len1 : Int)
    rw [hl] at el PX
    rw [lc] at EN SN
    generalize encL c b n l1 = L at *
    obtain ⟨k, hk⟩ : ∃ k, L.length = k := ⟨_, rfl⟩
    rw [hk] at EN SN el
    obtain ⟨sz, hsz⟩ : ∃ sz, 1 + (lenL (len1 : Int)).length = sz := ⟨_, rfl⟩
    rw [show (1 : Int) + ((lenL (len1 : Int)).length : Int) = (sz : Int) from by omega] at PX
    have ES := Lib.hid (show (k : Int) - (len1 : Int) = (sz : Int) from by omega)
    have kb : k ≤ 70010 := by omega
    have HL := Lib.hid hl
    clear hk lc el hl hsz lb
    go_enter Try.func10, Try.ntmps10
    go_upto_region 3 with (first | (go_at_call 35; refine (awake2_any _).mono ?_; rintro e w1 ⟨rfl, hb1⟩))
    have bel := Kit.bel1 hb1
    have hbx := stay (heap_alloc_new w _) hb1
    have q1 := rd1.past bel
    have q2 := rd2.past bel
    clear rd1 rd2 hb1
    obtain ⟨x0, x1, x2⟩ := cells3 hbx
    go_upto_region 4 with (first | (go_at_call 46; refine (EN.out _ q1).mono ?_; rintro e w2 ⟨A2, c2, rfl, o2, hb⟩))
    have r2 := o2.rd
    replace q1 := q1.past hb
    replace q2 := q2.past hb
    replace hbx := stay hbx hb
    replace bel := two_below bel hb bel.size
    clear hb o2 EN x0 x1 x2
    obtain ⟨x0, x1, x2⟩ := cells3 hbx
    go_upto_region 5 with (first | (go_at_call 47; refine (SN.out _ q1).mono ?_; rintro e w3 ⟨A3, c3, rfl, o3, hb⟩))
    have r3 := o3.rd
    replace r2 := r2.past hb
    replace q1 := q1.past hb
    replace q2 := q2.past hb
    replace hbx := stay hbx hb
    replace bel := two_below bel hb bel.size
    clear hb o3 SN x0 x1 x2
    go_upto_region 7 with (first | (go_at_call 21; (refine Calls.mono (bytesS _ _ _ _ _ _ L L _ r2 r3) ?_); rw [Cur.eqB_self]; rintro e w' ⟨rfl, rfl⟩))
    clear r3
    have z := bel.size
    have ow := Own.lit (base := w3.heap.size) w3 [] (Nat.le_refl _) (Nat.zero_le _)
    have r2' := r2.alloc (Nat.le_refl _) (.cells (vs []).toArray 5)
    have q' := q2.alloc (Nat.le_refl _) (.cells (vs []).toArray 5)
    have hba : Below w3.heap.size w3 (w3.alloc (.cells (vs []).toArray 5)) := (Below.refl _ _).alloc (Nat.le_refl _) _
    clear r2
    go_upto_region 8 with (first
      | (at_builtin; refine app rfl (.tmp 72) (.tmp 73) rfl rfl ow rfl r2' (by simp; omega) (by simp) ?_; intro A4 c4 w4 ho4 hg4 hb4 hs4; simp only [List.length_nil, Nat.zero_add, List.nil_append] at ho4)
      | (at_builtin; refine app rfl (.tmp 74) (.tmp 75) rfl rfl ho4 rfl (q'.below hb4) (by omega) (hba.trans hb4).size ?_; intro A5 c5 w5 ho5 hg5 hb5 hs5)
      | (go_at_call 48; refine (next_any _ ho5.rd (Nat.le_refl _) ho5.cap ho5.capMax (by omega)).mono ?_; unfold NxO; rw [PX.out]; simp only [HL.out, HL2.out]; rintro e w6 ⟨A6, c6, A7, c7, _, rfl, o6, o7, _, _, hb6⟩))
    have hbz := ((hba.trans hb4).trans hb5).trans (hb6.mono (hba.trans (hb4.trans hb5)).size)
    clear ho4 hg4 hb4 hs4 ho5 hg5 hb5 hs5 ow r2' q' hba
    obtain ⟨hb', h11, h14⟩ := two_stay hbz (.cells #[.int .i64 c, .int .i64 n, .bool b, .int .i64 (len1 : Int), .int .i64 (sz : Int)] 54) (.cells #[.int .i64 0, .int .i64 0] 49)
    have zz : w6.heap.size ≤ ((w6.alloc (.cells #[.int .i64 c, .int .i64 n, .bool b, .int .i64 (len1 : Int), .int .i64 (sz : Int)] 54)).alloc (.cells #[.int .i64 0, .int .i64 0] 49)).heap.size := by simp; omega
    have r6 := ((o6.rd.alloc (Nat.le_refl _) (.cells #[.int .i64 c, .int .i64 n, .bool b, .int .i64 (len1 : Int), .int .i64 (sz : Int)] 54)).alloc (by simp) (.cells #[.int .i64 0, .int .i64 0] 49)).more zz
    have r7 := ((o7.rd.alloc (Nat.le_refl _) (.cells #[.int .i64 c, .int .i64 n, .bool b, .int .i64 (len1 : Int), .int .i64 (sz : Int)] 54)).alloc (by simp) (.cells #[.int .i64 0, .int .i64 0] 49)).more zz
    replace q1 := q1.past hb'
    replace q2 := q2.past hb'
    replace hbx := stay hbx hb'
    replace bel := two_below bel hb' bel.size
    clear hb' zz o6 o7 hb6 hbz z
    generalize hg10 : w6.heap.size + 1 = b14 at *
    generalize hg9 : w6.heap.size = b11 at *
    generalize (w6.alloc (.cells #[.int .i64 c, .int .i64 n, .bool b, .int .i64 (len1 : Int), .int .i64 (sz : Int)] 54)).alloc (.cells #[.int .i64 0, .int .i64 0] 49) = v6 at *
    clear hg9 hg10 w6
    obtain ⟨x0, x1, x2⟩ := cells3 hbx
    obtain ⟨y0, y1, y2, y3, y4⟩ := cells5 h11
    obtain ⟨u0, u1⟩ := cells2 h14
    have es := ES.out
    clear hbx h11 h14
    go_wp2_with (first
      | (go_at_call 21; (with_reducible refine Calls.mono (bytesS A6 _ _ _ _ _ l1 l1 _ r6 q1) ?_); rw [Cur.eqB_self]; rintro e w' ⟨rfl, rfl⟩)
      | (go_at_call 21; (with_reducible refine Calls.mono (bytesS A7 _ _ _ _ _ l2 l2 _ r7 q2) ?_); rw [Cur.eqB_self]; rintro e w' ⟨rfl, rfl⟩))
    go_ret
    exact ⟨(by first | rfl | exact ret_bool (by simp)), bel⟩
  · have el := enc_nil (c := c) (n := n) b l1 (by rw [hl]; exact lc)
    rw [el, lc] at EN SN
    simp only [List.length_nil] at EN SN
    clear el lc hl
    go_enter Try.func10, Try.ntmps10
    go_upto_region 3 with (first | (go_at_call 35; refine (awake2_any _).mono ?_; rintro e w1 ⟨rfl, hb1⟩))
    have bel := Kit.bel1 hb1
    have hbx := stay (heap_alloc_new w _) hb1
    have q1 := rd1.past bel
    clear rd1 rd2 hb1
    obtain ⟨x0, x1, x2⟩ := cells3 hbx
    go_upto_region 4 with (first | (go_at_call 46; refine (EN.out _ q1).mono ?_; rintro e w2 ⟨A2, c2, rfl, o2, hb⟩))
    have r2 := o2.rd
    replace q1 := q1.past hb
    replace hbx := stay hbx hb
    replace bel := two_below bel hb bel.size
    clear hb o2 EN x0 x1 x2
    obtain ⟨x0, x1, x2⟩ := cells3 hbx
    go_upto_region 5 with (first | (go_at_call 47; refine (SN.out _ q1).mono ?_; rintro e w3 ⟨A3, c3, rfl, o3, hb⟩))
    have r3 := o3.rd
    replace r2 := r2.past hb
    replace bel := two_below bel hb bel.size
    clear hb o3 SN x0 x1 x2
    go_wp2_with (first | (go_at_call 21; (refine Calls.mono (bytesS _ _ _ _ _ _ [] [] _ r2 r3) ?_); rw [Cur.eqB_self]; rintro e w' ⟨rfl, rfl⟩))
    go_ret
    exact ⟨(by first | rfl | exact ret_bool (by simp)), bel⟩
end Go.Proofs.Ytjdnjmggpomhcaa
