/- Walks: Wrap, Is, next, One of the package element; Put of the reference. -/
import Derived.Test.YtnpmgofkfdpbjaaPlEl
import Derived.Test.YtnpmgofkfdpbjaaConcatN
import Derived.Test.YtnpmgofkfdpbjaaIntF
import Derived.Test.YtnpmgofkfdpbjaaErr
set_option linter.unusedSimpArgs false
set_option linter.unusedVariables false
namespace Go.Proofs.Ytnpmgofkfdpbjaa.Tlv
open Go.RowKit Kit

/-- what Wrap returns -/
def EncP (w : World) (c : Int) (b : Bool) (n : Int) (u : List UInt8) (e : Ending) (w' : World) : Prop :=
  ∃ A' c', e = .returned (.tuple #[.slice A' (encL c b n u).length c', .int .i64 (encCode c n u.length)]) ∧ Own w' w.heap.size A' (encL c b n u).length c' (encL c b n u) ∧ Below w.heap.size w w'

set_option maxHeartbeats 2000000 in
theorem wrap_any {P : Option Addr} {m cc k : Nat} {u : List UInt8} (c n : Int) (b : Bool) (w : World) (hcat : Calls Try.prog 134 #[.slice P m cc] w (Cur.CatP w k u)) (hk : k ≤ 140737488355000) :
    Calls Try.prog 82 #[.int .i64 c, .bool b, .int .i64 n, .slice P m cc] w (EncP w c b n u) := by
  have HC := Lib.hid hcat
  clear hcat
  go_enter Try.func82, Try.ntmps82
  go_wp2_with fail
  refine HC.out.mono ?_
  rintro e w1 ⟨A1, c1, rfl, ho, hb⟩
  have EN := Lib.hid (encode_any (cp := c1) c n b w1 ho.rd (Nat.le_refl _) hk)
  clear HC ho
  go_wp2_with fail
  refine EN.out.mono ?_
  rintro e w2 ⟨A2, c2, rfl, ho2, hb2⟩
  go_wp2_with fail
  go_ret2
  exact ⟨A2, c2, rfl, ho2.mono hb.size, hb.trans (hb2.mono hb.size)⟩
/-- one part, laid just now -/
theorem cat_one {A : Option Addr} {n c B cc : Nat} {l : List UInt8} {t : TypeId} (X : World) (S : Nat) (hr : Rd X B A n l) (hB : B ≤ X.heap.size) (hS : X.heap.size = S) (hn : n ≤ 140737488355000) :
    Calls Try.prog 134 #[.slice (some ⟨S, 0, none⟩) 1 cc] (X.alloc (.cells #[.slice A n c] t)) (Cur.CatP (X.alloc (.cells #[.slice A n c] t)) n l) := by
  have h := Cur.concatN_any (P := some ⟨S, 0, none⟩) (g := S) (m := 1) (cc := cc) (B := B) (fun _ => A) (fun _ => n) (fun _ => c) (fun _ => l) (X.alloc (.cells #[.slice A n c] t)) (.inr rfl) (fun _ => by simp; omega)
    (fun k hk => by
      obtain rfl : k = 0 := by omega
      rw [cell_of_row _ S 0 _ _ _ (bk_new hS.symm)]; rfl) (fun k hk => hr.alloc hB _) (by simp; omega) (by simp [Cur.tot]; omega) (by omega)
  simpa [Cur.tot, Cur.catF] using h

/-- the reference's Put -/
def putL (x : Int) (l : List UInt8) : List UInt8 := ofI x :: (lenL l.length ++ l)
theorem put_enc {c n : Int} {b : Bool} {l : List UInt8} (h : encCode c n l.length = 0) : putL (idByte c b n) l = encL c b n l := by
  obtain ⟨h1, h2⟩ := encCode_ok h
  rw [(enc_ok b l h1 h2).1]; rfl

set_option maxHeartbeats 2000000 in
theorem put_any {A : Option Addr} {n c B : Nat} {l : List UInt8} (x : Int) (w : World) (hr : Rd w B A n l) (hB : B ≤ w.heap.size) (hx0 : 0 ≤ x) (hx1 : x ≤ 255) (hn : n ≤ 140737488355000) :
    Calls Try.prog 84 #[.int .u8 x, .slice A n c] w (Int4.OwnP w (putL x l)) := by
  have hl := hr.len
  have LN := Lib.hid (fun w => reflength_any (n : Int) w)
  have PL := Lib.hid (show putL x l = [ofI x] ++ lenL (n : Int) ++ l from by unfold putL; rw [hl]; simp)
  have lb := len_bd (n : Int)
  generalize putL x l = u at *
  generalize lenL (n : Int) = L at *
  generalize lenCode (n : Int) = lc at *
  obtain ⟨m, hm⟩ : ∃ m, L.length = m := ⟨_, rfl⟩
  rw [hm] at LN lb
  have HM := Lib.hid hm
  have HR := Lib.hid hr
  have HL := Lib.hid hl
  clear hr hm hl
  go_enter Try.func84, Try.ntmps84
  go_wp2_with fail
  refine (LN.out _).mono ?_
  rintro e w1 ⟨A1, c1, rfl, ho, hb⟩
  have zs := hb.size
  have ow := lit1 (base := w.heap.size) w1 x hx0 hx1 zs
  have r1 := ho.rd.alloc (Nat.le_refl _) (.cells #[.int .u8 x] 5)
  have r2 := (HR.out.below (hb.mono hB)).alloc (by omega) (.cells #[.int .u8 x] 5)
  have bel1 := hb.alloc zs (.cells #[.int .u8 x] 5)
  clear ho HR LN
  go_wp2_with (first | (at_builtin; refine app rfl (.tmp 14) (.tmp 15) rfl rfl ow rfl r1 (by omega) bel1.size ?_; intro A2 c2 w2 ho2 hg2 hb2 hs2) | (at_builtin; refine app rfl (.tmp 16) (.tmp 17) rfl rfl ho2 rfl (r2.below (hb2.mono (by omega))) (by omega) (bel1.trans hb2).size ?_; intro A3 c3 w3 ho3 hg3 hb3 hs3))
  go_ret
  exact Int4.OwnP.mk PL.out (by rw [List.length_append, List.length_append, HM.out, HL.out]; rfl) rfl ho3 ((bel1.trans hb2).trans hb3)

/-- does an element have a tag? -/
def isB (x : El) (c : Int) (b : Bool) (n : Int) : Bool := decide (x.cls = c) && decide (x.cons = b) && decide (x.num = n)
abbrev elT (x : El) : Value := .agg #[.int .i64 x.cls, .int .i64 x.num, .bool x.cons, .int .i64 x.start, .int .i64 x.body, .int .i64 x.stop]

set_option maxHeartbeats 2000000 in
theorem is_any (x0 x1 x3 x4 x5 : Int) (x2 : Bool) (c : Int) (b : Bool) (n : Int) (w : World) :
    Calls Try.prog 89 #[.agg #[.int .i64 x0, .int .i64 x1, .bool x2, .int .i64 x3, .int .i64 x4, .int .i64 x5], .int .i64 c, .bool b, .int .i64 n] w fun e w' => e = .returned (.bool (isB ⟨x0, x1, x2, x3, x4, x5⟩ c b n)) ∧ Below w.heap.size w w' := by
  have F := Lib.hid (show isB ⟨x0, x1, x2, x3, x4, x5⟩ c b n = (decide (x0 = c) && decide (x2 = b) && decide (x1 = n)) from rfl)
  by_cases h0 : x0 = c
  · subst h0
    by_cases h2 : x2 = b
    · subst h2
      by_cases h1 : x1 = n
      · subst h1
        go_enter Try.func89, Try.ntmps89
        go_wp2
        go_ret
        exact ⟨ret_bool (by rw [F.out]; simp), (by repeat' (first | (with_reducible exact Below.refl _ _) | (with_reducible assumption) | (with_reducible refine below_drewN ?_ _) | (with_reducible refine Below.drew ?_) | (with_reducible refine Below.alloc ?_ ?_ _) | (with_reducible refine Below.setCell ?_ ?_ _) | go_size))⟩
      · go_enter Try.func89, Try.ntmps89
        go_wp2
        go_ret
        exact ⟨ret_bool (by rw [F.out]; simp [h1]), (by repeat' (first | (with_reducible exact Below.refl _ _) | (with_reducible assumption) | (with_reducible refine below_drewN ?_ _) | (with_reducible refine Below.drew ?_) | (with_reducible refine Below.alloc ?_ ?_ _) | (with_reducible refine Below.setCell ?_ ?_ _) | go_size))⟩
    · have h2' : (x2 == b) = false := by simpa using h2
      have F' := Lib.hid (show isB ⟨x0, x1, x2, x3, x4, x5⟩ x0 b n = false from by rw [F.out]; simp [h2])
      clear h2
      go_enter Try.func89, Try.ntmps89
      go_wp2
      go_ret
      exact ⟨ret_bool F'.out.symm, (by repeat' (first | (with_reducible exact Below.refl _ _) | (with_reducible assumption) | (with_reducible refine below_drewN ?_ _) | (with_reducible refine Below.drew ?_) | (with_reducible refine Below.alloc ?_ ?_ _) | (with_reducible refine Below.setCell ?_ ?_ _) | go_size))⟩
  · go_enter Try.func89, Try.ntmps89
    go_wp2
    go_ret
    exact ⟨ret_bool (by rw [F.out]; simp [h0]), (by repeat' (first | (with_reducible exact Below.refl _ _) | (with_reducible assumption) | (with_reducible refine below_drewN ?_ _) | (with_reducible refine Below.drew ?_) | (with_reducible refine Below.alloc ?_ ?_ _) | (with_reducible refine Below.setCell ?_ ?_ _) | go_size))⟩
end Go.Proofs.Ytnpmgofkfdpbjaa.Tlv
