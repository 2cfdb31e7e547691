/- The walk of cretulalaw02.awake. -/
import Derived.Test.YtjdnjmggpomhcaaTlvI
import Derived.Test.YtjdnjmggpomhcaaErr
set_option linter.unusedSimpArgs false
set_option linter.unusedVariables false
namespace Go.Proofs.Ytjdnjmggpomhcaa.Tlv
open Go.RowKit Kit

theorem two_below {w w1 w2 : World} {B : Nat} (h1 : Below B w w1) (h2 : Below w1.heap.size w1 w2) (hB : B ≤ w1.heap.size) : Below B w w2 := h1.trans (h2.mono hB)
/-- Bytes, both slices in the world at hand -/
theorem bytesS (A1 A2 : Option Addr) (n1 c1 n2 c2 : Nat) (l1 l2 : List UInt8) (w : World) (h1 : Rd w w.heap.size A1 n1 l1) (h2 : Rd w w.heap.size A2 n2 l2) :
    Calls Try.prog 21 #[.slice A1 n1 c1, .slice A2 n2 c2] w fun e w' => e = .returned (.bool (Cur.eqB l1 l2)) ∧ w = w' := Cur.bytes_any A1 A2 n1 c1 n2 c2 l1 l2 w h1 h2
/-- a slice literal just made -/
theorem litS (X : World) (xs : List Int) (l : List UInt8) (S n : Nat) (hS : X.heap.size = S) (hxs : ∀ x ∈ xs, 0 ≤ x ∧ x ≤ 255) (hl : xs.map ofI = l) (hn : xs.length = n) :
    Rd (X.alloc (.cells (xs.map (Value.int .u8)).toArray 5)) (X.alloc (.cells (xs.map (Value.int .u8)).toArray 5)).heap.size (some ⟨S, 0, none⟩) n l :=
  (Rd.litE X xs l S n hS hxs hl hn).more (by rw [World.size_alloc, hS]; exact Nat.le_refl _)
theorem nx_lit : nx [2, 1, 5, 5, 0] = ⟨⟨0, 2, false, 1, 2⟩, [5], [5, 0], 0, 0⟩ := by rfl
theorem enc_lit : encL 0 false 2 [5] = [2, 1, 5] := by decide +kernel

set_option maxHeartbeats 2000000 in
theorem awake2_any (w : World) : Calls Try.prog 35 #[] w fun e w' => e = .returned (.bool true) ∧ Below w.heap.size w w' := by
  have ID := Lib.hid (fun w => ident_any 2 3 true w)
  rw [show idByte 2 true 3 = 163 from by decide, show idCode 2 3 = 0 from by decide] at ID
  have L1 := Lib.hid (fun w => length_any 127 w)
  rw [show lenL 127 = [127] from by decide +kernel, show lenCode 127 = 0 from by decide] at L1
  have L2 := Lib.hid (fun w => length_any 256 w)
  rw [show lenL 256 = [130, 1, 0] from by decide +kernel, show lenCode 256 = 0 from by decide] at L2
  have RL := Lib.hid (fun (w : World) (A : Option Addr) (h : Rd w w.heap.size A 2 [129, 127]) => readlen_any (c := 2) w h (Nat.le_refl _) (by omega) (by unfold maxLen; omega))
  rw [show rl [129, 127] = (0, 0, 4, 0) from by decide +kernel] at RL
  have EN := Lib.hid (fun (w : World) (A : Option Addr) (h : Rd w w.heap.size A 1 [5]) => encode_any (cp := 1) 0 2 false w h (Nat.le_refl _) (by omega))
  rw [enc_lit, show encCode 0 2 ([5] : List UInt8).length = 0 from by decide] at EN
  have NX := Lib.hid (fun (w : World) (A : Option Addr) (h : Rd w w.heap.size A 5 [2, 1, 5, 5, 0]) => next_any (c := 5) w h (Nat.le_refl _) (by omega) (by unfold maxLen; omega) (by omega))
  simp only [List.length_cons, List.length_nil, Nat.zero_add, Nat.reduceAdd] at L1 L2 EN
  go_enter Try.func35, Try.ntmps35
  go_upto_region 2 with (first | (go_at_call 36; refine (ID.out _).mono ?_; rintro e w' ⟨rfl, rfl⟩))
  go_upto_region 3 with (first | (go_at_call 40; refine (L1.out _).mono ?_; rintro e w1 ⟨Aa, ca, rfl, hoa, hb1⟩))
  have ra := hoa.rd
  clear hoa
  go_upto_region 4 with (first | (go_at_call 40; refine (L2.out _).mono ?_; rintro e w2 ⟨Ab, cb, rfl, hob, hb2⟩))
  have ra2 := ra.past hb2
  have rb2 := hob.rd
  have bel2 := two_below hb1 hb2 hb1.size
  clear ra hob hb1 hb2
  have LT := Lib.hid (Rd.litE w2 [129, 127] [129, 127] w2.heap.size 2 rfl (by decide) (by decide) rfl)
  go_upto_region 5 with (first | (go_at_call 42; refine (RL.out _ _ (LT.out.more (by simp))).mono ?_; rintro e w3 ⟨rfl, hb3⟩))
  have bb3 := Kit.bel1 hb3
  have eh := ErrB.new w3 4 0
  have ra3 := (ra2.past bb3).alloc (Nat.le_refl _) (.cells #[.int .i64 4, .int .i64 0] 49)
  have rb3 := (rb2.past bb3).alloc (Nat.le_refl _) (.cells #[.int .i64 4, .int .i64 0] 49)
  have bel3 := (two_below bel2 bb3 bel2.size).alloc (two_below bel2 bb3 bel2.size).size (.cells #[.int .i64 4, .int .i64 0] 49)
  clear ra2 rb2 bel2 bb3 hb3 LT
  replace ra3 := ra3.more (show w3.heap.size ≤ (w3.alloc (.cells #[.int .i64 4, .int .i64 0] 49)).heap.size from by simp)
  replace rb3 := rb3.more (show w3.heap.size ≤ (w3.alloc (.cells #[.int .i64 4, .int .i64 0] 49)).heap.size from by simp)
  generalize w3.heap.size = bh at *
  generalize w3.alloc (.cells #[.int .i64 4, .int .i64 0] 49) = v3 at *
  have LE := Lib.hid (Rd.litE v3 [5] [5] v3.heap.size 1 rfl (by decide) (by decide) rfl)
  go_upto_region 6 with (first | (go_at_call 46; refine (EN.out _ _ (LE.out.more (by simp))).mono ?_; rintro e w4 ⟨Ac, cc, rfl, hoc, hb4⟩))
  have bb4 := Kit.bel1 hb4
  have ra4 := ra3.past bb4
  have rb4 := rb3.past bb4
  have rc4 := hoc.rd
  have eh4 := eh.past bb4
  have bel4 := two_below bel3 bb4 bel3.size
  clear ra3 rb3 hoc eh bel3 bb4 hb4 LE
  have LN := Lib.hid (Rd.litE w4 [2, 1, 5, 5, 0] [2, 1, 5, 5, 0] w4.heap.size 5 rfl (by decide) (by decide) rfl)
  go_upto_region 7 with (first | (go_at_call 48; refine (NX.out _ _ (LN.out.more (by simp))).mono ?_; rintro e w5 hnx; unfold NxO at hnx; rw [nx_lit] at hnx; obtain ⟨Ad, cd, Ae, ce, bb, rfl, hod, hoe, _, _, hb5⟩ := hnx))
  have bb5 := Kit.bel1 hb5
  have ra5 := ra4.past bb5
  have rb5 := rb4.past bb5
  have rc5 := rc4.past bb5
  have rd5 := hod.rd
  have re5 := hoe.rd
  have eh5 := eh4.past bb5
  have bel5 := two_below bel4 bb5 bel4.size
  have ej := ErrB.new (w5.alloc (.cells #[.int .i64 0, .int .i64 2, .bool false, .int .i64 1, .int .i64 2] 54)) 0 0
  clear ra4 rb4 rc4 eh4 bel4 bb5 hb5 hod hoe LN
  simp only [List.length_cons, List.length_nil, Nat.zero_add, Nat.reduceAdd] at rd5 re5
  have sz : w5.heap.size ≤ ((w5.alloc (.cells #[.int .i64 0, .int .i64 2, .bool false, .int .i64 1, .int .i64 2] 54)).alloc (.cells #[.int .i64 0, .int .i64 0] 49)).heap.size := by simp; omega
  replace ra5 := ((ra5.alloc (Nat.le_refl _) (.cells #[.int .i64 0, .int .i64 2, .bool false, .int .i64 1, .int .i64 2] 54)).alloc (by simp) (.cells #[.int .i64 0, .int .i64 0] 49)).more sz
  replace rb5 := ((rb5.alloc (Nat.le_refl _) (.cells #[.int .i64 0, .int .i64 2, .bool false, .int .i64 1, .int .i64 2] 54)).alloc (by simp) (.cells #[.int .i64 0, .int .i64 0] 49)).more sz
  replace rc5 := ((rc5.alloc (Nat.le_refl _) (.cells #[.int .i64 0, .int .i64 2, .bool false, .int .i64 1, .int .i64 2] 54)).alloc (by simp) (.cells #[.int .i64 0, .int .i64 0] 49)).more sz
  replace rd5 := ((rd5.alloc (Nat.le_refl _) (.cells #[.int .i64 0, .int .i64 2, .bool false, .int .i64 1, .int .i64 2] 54)).alloc (by simp) (.cells #[.int .i64 0, .int .i64 0] 49)).more sz
  replace re5 := ((re5.alloc (Nat.le_refl _) (.cells #[.int .i64 0, .int .i64 2, .bool false, .int .i64 1, .int .i64 2] 54)).alloc (by simp) (.cells #[.int .i64 0, .int .i64 0] 49)).more sz
  replace eh5 := (eh5.alloc (.cells #[.int .i64 0, .int .i64 2, .bool false, .int .i64 1, .int .i64 2] 54)).alloc (.cells #[.int .i64 0, .int .i64 0] 49)
  replace bel5 := (bel5.alloc bel5.size (.cells #[.int .i64 0, .int .i64 2, .bool false, .int .i64 1, .int .i64 2] 54)).alloc (by simp; have := bel5.size; omega) (.cells #[.int .i64 0, .int .i64 0] 49)
  generalize hbj : (w5.alloc (.cells #[.int .i64 0, .int .i64 2, .bool false, .int .i64 1, .int .i64 2] 54)).heap.size = bj at *
  simp only [World.size_alloc] at hbj
  subst hbj
  generalize hW : (w5.alloc (.cells #[.int .i64 0, .int .i64 2, .bool false, .int .i64 1, .int .i64 2] 54)).alloc (.cells #[.int .i64 0, .int .i64 0] 49) = W at *
  clear sz hW
  have h0 := eh5.cell0
  have h1 := eh5.cell1
  have j0 := ej.cell0
  have j1 := ej.cell1
  clear eh5 ej
  go_upto_region 9 with fail
  clear h0 h1 j0 j1
  have zW := bel5.size
  go_wp2_with (first
    | (go_at_call 21; (with_reducible refine Calls.mono (bytesS Aa _ _ _ _ _ [127] [127] _ ?_ ?_) ?_); (focus (refine Rd.more (B := W.heap.size) ?_ ?_; (focus (repeat' (first | (with_reducible exact ra5) | (with_reducible refine Rd.alloc ?_ ?_ _) | go_size | (simp; omega)))); (first | omega | (simp; omega) | (simp; done)))); (focus (refine litS _ [127] [127] _ _ ?_ ?_ ?_ ?_ <;> first | rfl | decide | (simp; done))); rw [Cur.eqB_self]; rintro e w' ⟨rfl, rfl⟩)
    | (go_at_call 21; (with_reducible refine Calls.mono (bytesS Ab _ _ _ _ _ [130, 1, 0] [130, 1, 0] _ ?_ ?_) ?_); (focus (refine Rd.more (B := W.heap.size) ?_ ?_; (focus (repeat' (first | (with_reducible exact rb5) | (with_reducible refine Rd.alloc ?_ ?_ _) | go_size | (simp; omega)))); (first | omega | (simp; omega) | (simp; done)))); (focus (refine litS _ [130, 1, 0] [130, 1, 0] _ _ ?_ ?_ ?_ ?_ <;> first | rfl | decide | (simp; done))); rw [Cur.eqB_self]; rintro e w' ⟨rfl, rfl⟩)
    | (go_at_call 21; (with_reducible refine Calls.mono (bytesS Ac _ _ _ _ _ [2, 1, 5] [2, 1, 5] _ ?_ ?_) ?_); (focus (refine Rd.more (B := W.heap.size) ?_ ?_; (focus (repeat' (first | (with_reducible exact rc5) | (with_reducible refine Rd.alloc ?_ ?_ _) | go_size | (simp; omega)))); (first | omega | (simp; omega) | (simp; done)))); (focus (refine litS _ [2, 1, 5] [2, 1, 5] _ _ ?_ ?_ ?_ ?_ <;> first | rfl | decide | (simp; done))); rw [Cur.eqB_self]; rintro e w' ⟨rfl, rfl⟩)
    | (go_at_call 21; (with_reducible refine Calls.mono (bytesS Ad _ _ _ _ _ [5] [5] _ ?_ ?_) ?_); (focus (refine Rd.more (B := W.heap.size) ?_ ?_; (focus (repeat' (first | (with_reducible exact rd5) | (with_reducible refine Rd.alloc ?_ ?_ _) | go_size | (simp; omega)))); (first | omega | (simp; omega) | (simp; done)))); (focus (refine litS _ [5] [5] _ _ ?_ ?_ ?_ ?_ <;> first | rfl | decide | (simp; done))); rw [Cur.eqB_self]; rintro e w' ⟨rfl, rfl⟩)
    | (go_at_call 21; (with_reducible refine Calls.mono (bytesS Ae _ _ _ _ _ [5, 0] [5, 0] _ ?_ ?_) ?_); (focus (refine Rd.more (B := W.heap.size) ?_ ?_; (focus (repeat' (first | (with_reducible exact re5) | (with_reducible refine Rd.alloc ?_ ?_ _) | go_size | (simp; omega)))); (first | omega | (simp; omega) | (simp; done)))); (focus (refine litS _ [5, 0] [5, 0] _ _ ?_ ?_ ?_ ?_ <;> first | rfl | decide | (simp; done))); rw [Cur.eqB_self]; rintro e w' ⟨rfl, rfl⟩))
  go_ret
  exact ⟨rfl, (by repeat' (first | (with_reducible exact Below.refl _ _) | (with_reducible assumption) | (with_reducible refine below_drewN ?_ _) | (with_reducible refine Below.drew ?_) | (with_reducible refine Below.alloc ?_ ?_ _) | (with_reducible refine Below.setCell ?_ ?_ _) | go_size))⟩
end Go.Proofs.Ytjdnjmggpomhcaa.Tlv
