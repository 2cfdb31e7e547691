/- Walks: elements, encoded by tlv and by its reference. -/
import Derived.Test.YtnpmgofkfdpbjaaTlvF
import Derived.Test.YtnpmgofkfdpbjaaConcat
set_option linter.unusedSimpArgs false
set_option linter.unusedVariables false
namespace Go.Proofs.Ytnpmgofkfdpbjaa.Tlv
open Go.RowKit Kit

/-- an element, and its error -/
def encCode (c n : Int) (k : Nat) : Int := if idCode c n ≠ 0 then idCode c n else lenCode k
def encL (c : Int) (b : Bool) (n : Int) (l : List UInt8) : List UInt8 := if encCode c n l.length ≠ 0 then [] else ofI (idByte c b n) :: (lenL l.length ++ l)
theorem enc_bad1 {c n : Int} (b : Bool) (l : List UInt8) (h : idCode c n ≠ 0) : encL c b n l = [] ∧ encCode c n l.length = idCode c n := by
  have e : encCode c n l.length = idCode c n := by unfold encCode; rw [if_pos h]
  exact ⟨by unfold encL; rw [e, if_pos h], e⟩
theorem enc_bad2 {c n : Int} (b : Bool) (l : List UInt8) (h : idCode c n = 0) (h2 : lenCode l.length ≠ 0) : encL c b n l = [] ∧ encCode c n l.length = lenCode l.length := by
  have e : encCode c n l.length = lenCode l.length := by unfold encCode; rw [if_neg (by omega)]
  exact ⟨by unfold encL; rw [e, if_pos h2], e⟩
theorem enc_ok {c n : Int} (b : Bool) (l : List UInt8) (h : idCode c n = 0) (h2 : lenCode l.length = 0) : encL c b n l = ofI (idByte c b n) :: (lenL l.length ++ l) ∧ encCode c n l.length = 0 := by
  have e : encCode c n l.length = 0 := by unfold encCode; rw [if_neg (by omega), h2]
  exact ⟨by unfold encL; rw [e, if_neg (by omega)], e⟩

set_option maxRecDepth 100000 in
set_option maxHeartbeats 2000000 in
theorem encode_any {A : Option Addr} {k cp B : Nat} {l : List UInt8} (c n : Int) (b : Bool) (w : World) (hr : Rd w B A k l) (hB : B ≤ w.heap.size) (hk : k ≤ 140737488355000) :
    Calls Try.prog 133 #[.int .i64 c, .bool b, .int .i64 n, .slice A k cp] w fun e w' => ∃ A' c', e = .returned (.tuple #[.slice A' (encL c b n l).length c', .int .i64 (encCode c n l.length)]) ∧ Own w' w.heap.size A' (encL c b n l).length c' (encL c b n l) ∧ Below w.heap.size w w' := by
  have hl := hr.len
  subst hl
  have ID := Lib.hid (fun w => ident_any c n b w)
  have LN := Lib.hid (fun w => length_any (l.length : Int) w)
  by_cases h1 : idCode c n ≠ 0
  · obtain ⟨e1, e2⟩ := enc_bad1 b l h1
    have F := Lib.hid e2
    rw [e1, List.length_nil]
    generalize idCode c n = ic at *
    clear e1 e2 hr
    go_enter Try.func133, Try.ntmps133
    go_wp2_with (go_at_call 155; refine (ID.out _).mono ?_; rintro e w' ⟨rfl, rfl⟩)
    go_ret2
    exact ⟨none, 0, ret2 rfl (vint F.out.symm), Own.none_ _ _, (by repeat' (first | (with_reducible exact Below.refl _ _) | (with_reducible assumption) | (with_reducible refine below_drewN ?_ _) | (with_reducible refine Below.drew ?_) | (with_reducible refine Below.alloc ?_ ?_ _) | (with_reducible refine Below.setCell ?_ ?_ _) | go_size))⟩
  have h1' : idCode c n = 0 := by omega
  by_cases h2 : lenCode l.length ≠ 0
  · obtain ⟨e1, e2⟩ := enc_bad2 b l h1' h2
    have F := Lib.hid e2
    rw [e1, List.length_nil]
    rw [h1'] at ID
    generalize lenCode l.length = lc at *
    clear e1 e2 hr h1 h1'
    go_enter Try.func133, Try.ntmps133
    go_wp2_with (first | (go_at_call 155; refine (ID.out _).mono ?_; rintro e w' ⟨rfl, rfl⟩) | (go_at_call 156; refine (LN.out _).mono ?_; rintro e w1 ⟨A1, c1, rfl, ho, hb⟩))
    go_ret2
    exact ⟨none, 0, ret2 rfl (vint F.out.symm), Own.none_ _ _, hb⟩
  have h2' : lenCode l.length = 0 := by omega
  obtain ⟨e1, e2⟩ := enc_ok b l h1' h2'
  have F1 := Lib.hid e1
  have F2 := Lib.hid e2
  rw [h1'] at ID
  rw [h2'] at LN
  obtain ⟨x0, x1⟩ := id_bd c b n
  have lb := len_bd (l.length : Int)
  generalize idByte c b n = x at *
  generalize lenL l.length = L at *
  obtain ⟨m, hm⟩ : ∃ m, L.length = m := ⟨_, rfl⟩
  rw [hm] at LN lb
  have HM := Lib.hid hm
  have HR := Lib.hid hr
  clear e1 e2 hr h1 h1' h2 h2' hm
  go_enter Try.func133, Try.ntmps133
  go_upto_region 7 with (first | (go_at_call 155; refine (ID.out _).mono ?_; rintro e w' ⟨rfl, rfl⟩) | (go_at_call 156; refine (LN.out _).mono ?_; rintro e w1 ⟨A1, c1, rfl, ho, hb⟩))
  have zs := hb.size
  have hx : Rd (w1.alloc (.cells #[.int .u8 x] 5)) (w1.heap.size + 1) (some ⟨w1.heap.size, 0, none⟩) 1 [ofI x] := Rd.litE w1 [x] [ofI x] w1.heap.size 1 rfl (in1 x0 x1) rfl rfl
  have r0 := hx.alloc (by simp) (.cells #[.slice (some ⟨w1.heap.size, 0, none⟩) 1 1, .slice A1 m c1, .slice A l.length cp] 29)
  have r1 := ((ho.rd.alloc (Nat.le_refl _) (.cells #[.int .u8 x] 5)).alloc (by simp) (.cells #[.slice (some ⟨w1.heap.size, 0, none⟩) 1 1, .slice A1 m c1, .slice A l.length cp] 29)).more (B' := w1.heap.size + 1) (by omega)
  have r2 := (((HR.out.below (hb.mono hB)).alloc (by omega) (.cells #[.int .u8 x] 5)).alloc (by simp; omega) (.cells #[.slice (some ⟨w1.heap.size, 0, none⟩) 1 1, .slice A1 m c1, .slice A l.length cp] 29)).more (B' := w1.heap.size + 1) (by omega)
  have CN := Lib.hid (Cur.concat3_any (cc := 3) (g := w1.heap.size + 1) ((w1.alloc (.cells #[.int .u8 x] 5)).alloc (.cells #[.slice (some ⟨w1.heap.size, 0, none⟩) 1 1, .slice A1 m c1, .slice A l.length cp] 29)) (bk_new (by simp)) r0 r1 r2 (by simp) (by omega) (by omega))
  have bel2 : Below w.heap.size w ((w1.alloc (.cells #[.int .u8 x] 5)).alloc (.cells #[.slice (some ⟨w1.heap.size, 0, none⟩) 1 1, .slice A1 m c1, .slice A l.length cp] 29)) := (hb.alloc zs _).alloc (by simp; omega) _
  clear r0 r1 r2 hx ho HR
  go_wp2_with (go_at_call 134; refine CN.out.mono ?_; rintro e w2 ⟨A3, c3, rfl, ho3, hb3⟩)
  go_ret2
  have el : (encL c b n l).length = 1 + m + l.length := by rw [F1.out, List.length_cons, List.length_append, HM.out]; omega
  rw [el]
  refine ⟨A3, c3, ret2 rfl (vint F2.out.symm), ?_, bel2.trans (hb3.mono bel2.size)⟩
  rw [F1.out]
  exact (ho3.mono bel2.size)

end Go.Proofs.Ytnpmgofkfdpbjaa.Tlv
