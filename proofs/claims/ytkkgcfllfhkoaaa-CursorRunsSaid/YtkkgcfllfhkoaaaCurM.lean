/- The walk of cretulalaw01.awake. -/
import Derived.Test.YtkkgcfllfhkoaaaCurL
set_option linter.unusedSimpArgs false
set_option linter.unusedVariables false
namespace Go.Proofs.Ytkkgcfllfhkoaaa.Cur
open Go.RowKit Kit

set_option maxHeartbeats 2000000 in
theorem awake_any (w : World) : Calls Try.prog 27 #[] w fun e w' => e = .returned (.bool true) ∧ Below w.heap.size w w' := by
  have r1 : Rd _ _ _ 3 [1, 2, 3] := Rd.lits w [1, 2, 3] (by decide)
  go_enter Try.func27, Try.ntmps27
  go_wp2_with fail
  refine (newL _ r1 (by omega) (by simp)).mono ?_
  rintro e w1 ⟨g, rfl, hc1, hb1⟩
  have hz1 := hb1.size; (try simp only [World.size_alloc, World.size_setCell, World.size_drew, World.heap_drewN] at hz1)
  have hg1 := hc1.lt; (try simp only [World.size_alloc, World.size_setCell, World.size_drew, World.heap_drewN] at hg1)
  go_wp2_with fail
  refine (byteE (q := 1) 1 0 0 _ hc1 (by decide) (by decide) (by decide) (by decide)).mono ?_
  rintro e w2 ⟨rfl, hg2, hc2⟩
  have hz2 := hg2.size; (try simp only [World.size_alloc, World.size_setCell, World.size_drew, World.heap_drewN] at hz2)
  have hc2a := CuL.other hc2 (grown_alloc (World.grownBy.refl _ none) (Obj.cells #[Value.int IntKind.i64 0, Value.int IntKind.i64 0] 46)) (by intro k e; cases e)
  go_wp2_with fail
  refine (takeE (q := 3) (k := 2) (r := [2, 3]) 0 0 2 _ hc2a (by decide) (by decide) (by decide) (by decide) (by decide)).mono ?_
  rintro e w3 ⟨A3, c3, rfl, ho3, hg3, hc3⟩
  have hz3 := hg3.size; (try simp only [World.size_alloc, World.size_setCell, World.size_drew, World.heap_drewN] at hz3)
  have hne2 : w2.heap.size ≠ g := by omega
  obtain ⟨k20, k21, f20, f21, s2, hg3'⟩ := two_grown hg3 (by simpa using hne2)
  clear hg3
  have hc3a := CuL.other hc3 (grown_alloc (World.grownBy.refl _ none) (Obj.cells #[Value.int IntKind.i64 0, Value.int IntKind.i64 0] 46)) (by intro k e; cases e)
  go_wp2_with fail
  refine (byteE (q := 3) 0 1 3 _ hc3a (by decide) (by decide) (by decide) (by decide)).mono ?_
  rintro e w4 ⟨rfl, hg4, hc4⟩
  have hz4 := hg4.size; (try simp only [World.size_alloc, World.size_setCell, World.size_drew, World.heap_drewN] at hz4)
  have hne3 : w3.heap.size ≠ g := by omega
  obtain ⟨k30, k31, f30, f31, s3, hg4'⟩ := two_grown hg4 (by simpa using hne3)
  have k20' : w4.cell? ⟨w2.heap.size, 0, none⟩ = some (.int .i64 0) := by rw [(gcell hg4').1 _ _ (by omega) hne2, k20]
  have k21' : w4.cell? ⟨w2.heap.size, 1, none⟩ = some (.int .i64 0) := by rw [(gcell hg4').1 _ _ (by omega) hne2, k21]
  clear k20 k21 hg4 f20 f21 s2 f30 f31 s3
  have ho4 : Own w4 _ A3 2 c3 [2, 3] := ho3.grown hg4' (fun k e e' => by have := (ho3.blk e').1; simp only [World.size_alloc] at this; injection e with e; omega)
  have rd4 := ho4.rd
  have r5 := Rd.lits (w4.alloc (Obj.cells #[Value.int IntKind.i64 1, Value.int IntKind.i64 3] 46)) [0, 1, 2] (by decide)
  simp only [World.size_alloc, List.map_cons, List.map_nil, List.length_cons, List.length_nil] at r5
  have hz5 : w.heap.size + 1 ≤ w4.heap.size := by omega
  have hb4 : Below w.heap.size w w4 := by
    have h1 : Below w.heap.size w w1 := ((Below.refl _ _).alloc (Nat.le_refl _) _).trans (hb1.mono (by simp))
    have h4 : w1.grownBy w4 (some g) := grown_trans hg2 (grown_trans hg3' hg4')
    exact h1.grown h4 (by omega) (fun k e => by injection e with e; omega)
  clear hc1 hc2 hc2a hc3 hc3a hc4 r1 ho3 ho4 hb1 hg2 hg3' hg4'
  go_wp2_with fail
  refine (uint_any _ _ _ _ _ r5 (by decide)).mono ?_
  rintro e w5 ⟨rfl, rfl⟩
  rw [show uintV [ofI 0, ofI 1, ofI 2] = 258 from by decide, show uintOk [ofI 0, ofI 1, ofI 2] = true from by decide]
  clear r5
  have h24 : w2.heap.size < w4.heap.size := by omega
  have h34 : w3.heap.size < w4.heap.size := by omega
  have h34a : w3.heap.size < w4.heap.size + 1 := by omega
  have h34b : w3.heap.size < w4.heap.size + 1 + 1 := by omega
  go_wp2_with fail
  refine (bytes_any _ _ _ _ _ _ [2, 3] [2, 3] _ ((by repeat' (first | (with_reducible assumption) | (with_reducible refine Rd.drewN ?_ _) | (with_reducible refine Rd.drew ?_) | (with_reducible refine Rd.alloc ?_ ?_ _) | go_size)) : Rd _ w4.heap.size A3 2 [2, 3]) (Rd.litE _ [2, 3] [2, 3] _ 2 (by simp) (by decide) (by decide) rfl)).mono ?_
  rw [eqB_self]
  rintro e w6 ⟨rfl, rfl⟩
  go_wp2_with fail
  refine (minimal_any 258 _ (by decide)).mono ?_
  rintro e w7 ⟨A7, c7, rfl, ho7, hb7⟩
  have hm : (minL 258) = [1, 2] := by decide
  have hml : (minL 258).length = 2 := by decide
  rw [hml] at ho7
  rw [hm] at ho7
  rw [hml]
  have hb7' : Below w.heap.size w w7 := (((hb4.alloc (by omega) _).alloc (by simp; omega) _).alloc (by simp; omega) _).trans (hb7.mono (by simp; omega))
  have rd7 := ho7.rd
  have hz7 : w.heap.size ≤ w7.heap.size := hb7'.size
  clear ho7 hb7 hb4 rd4 k30 k31 k20' k21' hm hml h24 h34 h34a h34b
  go_wp2_with fail
  refine (bytes_any _ _ _ _ _ _ [1, 2] [1, 2] _ ((by repeat' (first | (with_reducible assumption) | (with_reducible refine Rd.drewN ?_ _) | (with_reducible refine Rd.drew ?_) | (with_reducible refine Rd.alloc ?_ ?_ _) | go_size)) : Rd _ w7.heap.size A7 2 [1, 2]) (Rd.litE _ [1, 2] [1, 2] _ 2 (by simp) (by decide) (by decide) rfl)).mono ?_
  rw [eqB_self]
  rintro e w6 ⟨rfl, rfl⟩
  go_wp2_with fail
  have rc := Rd.litE (w7.alloc (Obj.cells #[Value.int IntKind.u8 1, Value.int IntKind.u8 2] 5)) [1] [1] _ 1 (World.size_alloc _ _) (by decide) (by decide) rfl
  refine (compare_any _ _ _ _ _ _ [1] [1, 2] _ (rc.alloc (by simp) _) (Rd.litE _ [1, 2] [1, 2] _ 2 (by simp) (by decide) (by decide) rfl) (by decide) (by decide)).mono ?_
  rw [show cmpL [1] [1, 2] = -1 from by decide]
  rintro e w6 ⟨rfl, rfl⟩
  clear rc
  go_wp2_with fail
  go_ret
  exact ⟨rfl, (by repeat' (first | (with_reducible exact Below.refl _ _) | (with_reducible assumption) | (with_reducible refine below_drewN ?_ _) | (with_reducible refine Below.drew ?_) | (with_reducible refine Below.alloc ?_ ?_ _) | (with_reducible refine Below.setCell ?_ ?_ _) | go_size))⟩
end Go.Proofs.Ytkkgcfllfhkoaaa.Cur
