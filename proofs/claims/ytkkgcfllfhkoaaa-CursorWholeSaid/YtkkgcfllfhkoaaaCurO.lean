/- The walk of the law CursorWhole. -/
import Derived.Test.YtkkgcfllfhkoaaaCurM
set_option linter.unusedSimpArgs false
set_option linter.unusedVariables false
namespace Go.Proofs.Ytkkgcfllfhkoaaa
open Go.RowKit Kit Cur

theorem take_take (l : List UInt8) (p k : Nat) : l.take p ++ (l.drop p).take k = l.take (p + k) := by
  rw [List.take_add]

set_option maxHeartbeats 1000000 in
theorem CursorWhole.walk (a0 : Option Addr) (len0 cap0 : Nat) (l0 : List UInt8) (a1 : Option Addr) (len1 cap1 : Nat) (l1 : List UInt8) (w : World)
    (rd0 : Rd w w.heap.size a0 len0 l0) (hc0 : len0 ≤ cap0) (hm0 : cap0 ≤ maxLen) (rd1 : Rd w w.heap.size a1 len1 l1) (hc1 : len1 ≤ cap1) (hm1 : cap1 ≤ maxLen) :
    Calls Try.prog 8 #[.slice a0 len0 cap0, .slice a1 len1 cap1] w fun e w' => e = .returned (.bool true) ∧ Below w.heap.size w w' := by
  clear hc0 hc1 hm0 hm1
  by_cases hbig : 2000 < len0 ∨ 60 < len1
  · by_cases g0 : 2000 < len0 <;> by_cases g1 : 60 < len1
    all_goals first
      | (exfalso; omega)
      | (clear hbig
         go_enter Try.func8, Try.ntmps8
         go_wp2_with fail
         refine (awake_any _).mono ?_
         rintro e w1 ⟨rfl, hb1⟩
         go_wp2_with fail
         refine (awake_any _).mono ?_
         rintro e w2 ⟨rfl, hb2⟩
         go_wp2_with fail
         go_ret
         exact ⟨rfl, hb1.trans (hb2.mono hb1.size)⟩)
  · have g0 : ¬ 2000 < len0 := by omega
    have g1 : ¬ 60 < len1 := by omega
    clear hbig
    have L0 := Lib.hid rd0.len
    go_enter Try.func8, Try.ntmps8
    go_wp2_with fail
    refine (awake_any _).mono ?_
    rintro e w1 ⟨rfl, hb1⟩
    have q0 := rd0.past hb1
    have q1 := rd1.past hb1
    clear rd0 rd1
    go_wp2_with fail
    refine (newL _ q0 (by omega) (Nat.le_refl _)).mono ?_
    rintro e w2 ⟨g, rfl, hcu, hb2⟩
    have hb3 := hb1.trans (hb2.mono hb1.size)
    have s0 := q0.below hb2
    have s1 := q1.below hb2
    have z12 := hb2.size
    have z01 := hb1.size
    clear q0 q1 hb1 hb2
    go_wp2_with fail
    go_loopw [6, 7] (fun o i wr => ∃ (k p : Nat) (A : Option Addr) (c : Nat), i = .int .i64 (k : Int) ∧ k ≤ len1 ∧ o = .slice A p c ∧ p ≤ 2000 ∧ Own wr w2.heap.size A p c (l0.take p) ∧ CuL wr w1.heap.size w2.heap.size g l0 p ∧ Below w1.heap.size w2 wr)
      (fun _ i _ => len1 - (intOf i).toNat)
    case atStart => exact ⟨0, 0, none, 0, rfl, Nat.zero_le _, rfl, by omega, by simpa using Own.none_ _ _, hcu, Below.refl _ _⟩
    case round =>
      obtain ⟨k, p, A, c, rfl, hk, rfl, hp, ho, hcu', hbl⟩ := hrel
      by_cases hlt : k < len1
      · obtain ⟨ad, rfl, hbk, hcell⟩ := (s1.below hbl).at_ hlt
        have tb := bt_hi l1 k
        obtain ⟨t, ht⟩ := Int.eq_ofNat_of_zero_le (bt_lo l1 k)
        rw [ht] at hcell tb
        have hgl := hcu'.lt
        have hpl := hcu'.pos
        rw [L0.out] at hpl
        have tb' : t ≤ 255 := by omega
        clear ht tb
        have hgw : g < w2.heap.size := by
          obtain ⟨A0, c0, _, _, h1, _⟩ := hcu
          exact h1.2.1
        by_cases hfit : p + t ≤ len0
        · obtain ⟨e1, e2, e3⟩ := tk_ok (n := l0.length) (p := p) (m := (t : Int)) (by omega) (by rw [L0.out]; omega)
          have T := Lib.hid (take_take l0 p t)
          go_wp2_with fail
          refine (takeE (q := p + t) (k := t) 0 0 (t : Int) _ hcu' (by rw [e1]; simp) e2 e3 rfl rfl).mono ?_
          rintro e w3 ⟨A3, c3, rfl, ho3, hg3, hc3⟩
          have z3 := hg3.size
          have cell3 : w3.cell? (ad.add k) = some (.int .u8 (t : Int)) := by
            rw [World.cell?_of_block (hg3.block (ad.add k).block (by rw [block_add]; have := hbl.size; omega) (by rw [block_add]; intro e; injection e with e; omega))]; exact hcell
          have cell4 : (w3.alloc (Obj.cells #[Value.int IntKind.i64 0, Value.int IntKind.i64 0] 46)).cell? (ad.add k) = some (.int .u8 (t : Int)) := by
            rw [World.cell?_alloc_lt w3 _ _ (by rw [block_add]; have := hbl.size; omega)]; exact cell3
          have ho' : Own w3 w2.heap.size A p c (l0.take p) := ho.grown hg3 (fun j e e' => by have := (ho.blk e').1; injection e with e; omega)
          have rx := (ho3.rd).alloc (Nat.le_refl _) (Obj.cells #[Value.int IntKind.i64 0, Value.int IntKind.i64 0] 46)
          have hc4 := CuL.other hc3 (grown_alloc (World.grownBy.refl _ none) (Obj.cells #[Value.int IntKind.i64 0, Value.int IntKind.i64 0] 46)) (by intro k e; cases e)
          have hb23 : Below w1.heap.size w2 w3 := hbl.grown hg3 (by have := hbl.size; omega) (fun j e => by injection e with e; omega)
          have z23 := hb23.size
          clear e1 e2 e3 hcu hcu' ho3 hg3 hc3 cell3 hcell
          go_wp2_with (first | (at_builtin; refine app rfl (.tmp 66) (.tmp 67) rfl rfl (ho'.alloc _) rfl rx (by omega) (by simp; omega) ?_; intro A4 c4 w4 ho4 hg4 hb4 hs4))
          go_roundw
          case rel =>
            refine ⟨k + 1, p + t, A4, c4, by go_num, by omega, rfl, ?_, ?_, ?_, ?_⟩
            · omega
            · rw [← T.out]; exact ho4
            · exact CuL.other hc4 hg4 (fun j e => .inr ((ho'.blk e).1))
            · exact (hb23.alloc (by omega) _).trans (hb4.mono (by omega))
          case measure => simp [intOf]; omega
        · obtain ⟨e1, e2, e3⟩ := tk_short (n := l0.length) (p := p) (m := (t : Int)) (by omega) (by rw [L0.out]; omega)
          go_wp2_with fail
          refine (takeE (q := p) (k := 0) (r := []) 1 (l0.length : Int) (t : Int) _ hcu' e1 e2 e3 rfl rfl).mono ?_
          rintro e w3 ⟨A3, c3, rfl, ho3, hg3, hc3⟩
          have z3 := hg3.size
          have ho' : Own w3 w2.heap.size A p c (l0.take p) := ho.grown hg3 (fun j e e' => by have := (ho.blk e').1; injection e with e; omega)
          have rx := (ho3.rd).alloc (Nat.le_refl _) (Obj.cells #[Value.int IntKind.i64 1, Value.int IntKind.i64 (l0.length : Int)] 46)
          have hc4 := CuL.other hc3 (grown_alloc (World.grownBy.refl _ none) (Obj.cells #[Value.int IntKind.i64 1, Value.int IntKind.i64 (l0.length : Int)] 46)) (by intro k e; cases e)
          have hb23 : Below w1.heap.size w2 w3 := hbl.grown hg3 (by have := hbl.size; omega) (fun j e => by injection e with e; omega)
          have z23 := hb23.size
          clear e1 e2 e3 hcu hcu' ho3 hg3 hc3 hcell
          go_wp2_with (first | (at_builtin; refine app rfl (.tmp 66) (.tmp 67) rfl rfl (ho'.alloc _) rfl rx (by omega) (by simp; omega) ?_; intro A4 c4 w4 ho4 hg4 hb4 hs4))
          go_roundw
          case rel =>
            refine ⟨k + 1, p, A4, c4, by go_num, by omega, rfl, ?_, ?_, ?_, ?_⟩
            · omega
            · simpa using ho4
            · exact CuL.other hc4 hg4 (fun j e => .inr ((ho'.blk e).1))
            · exact (hb23.alloc (by omega) _).trans (hb4.mono (by omega))
          case measure => simp [intOf]; omega
      · have z2r := hbl.size
        have D := Lib.hid (List.take_append_drop p l0)
        go_wp2_with fail
        refine (restL _ hcu').mono ?_
        rintro e w3 ⟨A3, c3, rfl, ho3, hb4⟩
        have z3 := hb4.size
        have ho' := ho.below hb4
        have rx := ho3.rd
        rw [L0.out] at rx ho3
        rw [L0.out]
        have s0' : Rd w3 w1.heap.size a0 len0 l0 := (s0.below hbl).below (hb4.mono (by omega))
        clear ho hcu hcu' ho3 s0 s1
        have hbx := hb3.trans ((hbl.mono (by omega)).trans (hb4.mono (by omega)))
        clear hb4 hb3 hbl
        go_wp2_with (first | (at_builtin; refine app rfl (.tmp 69) (.tmp 71) rfl rfl ho' rfl rx (by omega) (by omega) ?_; intro A4 c4 w4 ho4 hg4 hb4 hs4; rw [D.out] at ho4))
        refine (bytes_any _ _ _ _ _ _ _ _ _ ho4.rd (s0'.below (hb4.mono (by omega)))).mono ?_
        rw [eqB_self]
        rintro e w5 ⟨rfl, rfl⟩
        go_wp2_with fail
        go_ret
        exact ⟨rfl, hbx.trans (hb4.mono (by omega))⟩
end Go.Proofs.Ytkkgcfllfhkoaaa
