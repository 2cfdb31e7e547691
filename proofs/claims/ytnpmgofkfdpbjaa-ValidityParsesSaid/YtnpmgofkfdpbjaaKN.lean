/- Joined texts: EntA, EntB, EntC, EntD, EntE, EntF. -/
import Derived.Handy
import Derived.Lib.Strings
import Derived.Test.YtnpmgofkfdpbjaaKA
import Derived.Test.YtnpmgofkfdpbjaaKL
import Derived.Test.YtnpmgofkfdpbjaaKI
import Derived.Test.YtnpmgofkfdpbjaaKC
set_option linter.unusedSimpArgs false
set_option linter.unusedVariables false
/- Walks: the names of reasons, of the package entry and of its reference. -/
namespace Go.Proofs.Ytnpmgofkfdpbjaa.Ent
open Go.RowKit Kit

/-- the names; the empty one is none -/
def nmS : Nat → ByteArray
  | 0 => { data := #[117, 110, 115, 112, 101, 99, 105, 102, 105, 101, 100] }
  | 1 => { data := #[107, 101, 121, 67, 111, 109, 112, 114, 111, 109, 105, 115, 101] }
  | 2 => { data := #[99, 65, 67, 111, 109, 112, 114, 111, 109, 105, 115, 101] }
  | 3 => { data := #[97, 102, 102, 105, 108, 105, 97, 116, 105, 111, 110, 67, 104, 97, 110, 103, 101, 100] }
  | 4 => { data := #[115, 117, 112, 101, 114, 115, 101, 100, 101, 100] }
  | 5 => { data := #[99, 101, 115, 115, 97, 116, 105, 111, 110, 79, 102, 79, 112, 101, 114, 97, 116, 105, 111, 110] }
  | 6 => { data := #[99, 101, 114, 116, 105, 102, 105, 99, 97, 116, 101, 72, 111, 108, 100] }
  | 7 => { data := #[] }
  | 8 => { data := #[114, 101, 109, 111, 118, 101, 70, 114, 111, 109, 67, 82, 76] }
  | 9 => { data := #[112, 114, 105, 118, 105, 108, 101, 103, 101, 87, 105, 116, 104, 100, 114, 97, 119, 110] }
  | 10 => { data := #[97, 65, 67, 111, 109, 112, 114, 111, 109, 105, 115, 101] }
  | _ => { data := #[] }
def nmA : Array Value := #[.string { data := #[117, 110, 115, 112, 101, 99, 105, 102, 105, 101, 100] }, .string { data := #[107, 101, 121, 67, 111, 109, 112, 114, 111, 109, 105, 115, 101] }, .string { data := #[99, 65, 67, 111, 109, 112, 114, 111, 109, 105, 115, 101] }, .string { data := #[97, 102, 102, 105, 108, 105, 97, 116, 105, 111, 110, 67, 104, 97, 110, 103, 101, 100] }, .string { data := #[115, 117, 112, 101, 114, 115, 101, 100, 101, 100] }, .string { data := #[99, 101, 115, 115, 97, 116, 105, 111, 110, 79, 102, 79, 112, 101, 114, 97, 116, 105, 111, 110] }, .string { data := #[99, 101, 114, 116, 105, 102, 105, 99, 97, 116, 101, 72, 111, 108, 100] }, .string { data := #[] }, .string { data := #[114, 101, 109, 111, 118, 101, 70, 114, 111, 109, 67, 82, 76] }, .string { data := #[112, 114, 105, 118, 105, 108, 101, 103, 101, 87, 105, 116, 104, 100, 114, 97, 119, 110] }, .string { data := #[97, 65, 67, 111, 109, 112, 114, 111, 109, 105, 115, 101] }]
theorem nmA_at (k : Nat) (hk : k < 11) : nmA[k]? = some (.string (nmS k)) := by
  rcases (by omega : k = 0 ∨ k = 1 ∨ k = 2 ∨ k = 3 ∨ k = 4 ∨ k = 5 ∨ k = 6 ∨ k = 7 ∨ k = 8 ∨ k = 9 ∨ k = 10) with rfl | rfl | rfl | rfl | rfl | rfl | rfl | rfl | rfl | rfl | rfl <;> rfl
/-- the name of a reason -/
def nameV (r : Int) : ByteArray := if r < 0 ∨ 11 ≤ r then { data := #[] } else nmS r.toNat
def validR (r : Int) : Bool := decide (0 ≤ r ∧ r ≤ 10 ∧ r ≠ 7)
theorem nmS_empty (k : Nat) (hk : k < 11) : nmS k = { data := #[] } ↔ k = 7 := by
  rcases (by omega : k = 0 ∨ k = 1 ∨ k = 2 ∨ k = 3 ∨ k = 4 ∨ k = 5 ∨ k = 6 ∨ k = 7 ∨ k = 8 ∨ k = 9 ∨ k = 10) with rfl | rfl | rfl | rfl | rfl | rfl | rfl | rfl | rfl | rfl | rfl <;> decide

set_option maxRecDepth 100000 in
set_option maxHeartbeats 4000000 in
theorem names_any (w : World) : Calls Try.prog 78 #[] w fun e w' => e = .returned (.agg nmA) ∧ Below w.heap.size w w' := by
  go_enter Try.func78, Try.ntmps78
  go_wp2
  refine bodyPost_ret (v := .agg #[.string { data := #[117, 110, 115, 112, 101, 99, 105, 102, 105, 101, 100] }, .string { data := #[107, 101, 121, 67, 111, 109, 112, 114, 111, 109, 105, 115, 101] }, .string { data := #[99, 65, 67, 111, 109, 112, 114, 111, 109, 105, 115, 101] }, .string { data := #[97, 102, 102, 105, 108, 105, 97, 116, 105, 111, 110, 67, 104, 97, 110, 103, 101, 100] }, .string { data := #[115, 117, 112, 101, 114, 115, 101, 100, 101, 100] }, .string { data := #[99, 101, 115, 115, 97, 116, 105, 111, 110, 79, 102, 79, 112, 101, 114, 97, 116, 105, 111, 110] }, .string { data := #[99, 101, 114, 116, 105, 102, 105, 99, 97, 116, 101, 72, 111, 108, 100] }, .string { data := #[] }, .string { data := #[114, 101, 109, 111, 118, 101, 70, 114, 111, 109, 67, 82, 76] }, .string { data := #[112, 114, 105, 118, 105, 108, 101, 103, 101, 87, 105, 116, 104, 100, 114, 97, 119, 110] }, .string { data := #[97, 65, 67, 111, 109, 112, 114, 111, 109, 105, 115, 101] }]) (by simp [results, Try.results78, go_sem, *]) rfl ?_
  exact ⟨rfl, (by repeat' (first | (with_reducible exact Below.refl _ _) | (with_reducible assumption) | (with_reducible refine below_drewN ?_ _) | (with_reducible refine Below.drew ?_) | (with_reducible refine Below.alloc ?_ ?_ _) | (with_reducible refine Below.setCell ?_ ?_ _) | go_size))⟩

set_option maxRecDepth 100000 in
set_option maxHeartbeats 4000000 in
theorem name_any (r : Int) (w : World) : Calls Try.prog 20 #[.int .i64 r] w fun e w' => e = .returned (.string (nameV r)) ∧ Below w.heap.size w w' := by
  have NA := Lib.hid names_any
  by_cases h : r < 0 ∨ 11 ≤ r
  · have F := Lib.hid (show nameV r = { data := #[] } from by unfold nameV; rw [if_pos h])
    have h' : r < 0 ∨ (¬ r < 0 ∧ 11 ≤ r) := by omega
    clear h
    rcases h' with h | ⟨h, h2⟩
    all_goals
      go_enter Try.func20, Try.ntmps20
      go_wp2_with (go_at_call 78; refine (NA.out _).mono ?_; rintro e w1 ⟨rfl, hb⟩; unfold nmA)
      go_ret
      exact ⟨by rw [F.out]; rfl, hb.alloc hb.size _⟩
  · obtain ⟨k, rfl⟩ := Int.eq_ofNat_of_zero_le (show 0 ≤ r from by omega)
    have hk : k < 11 := by omega
    have F := Lib.hid (show nameV (k : Int) = nmS k from by unfold nameV; rw [if_neg h]; rfl)
    have AT := Lib.hid (nmA_at k hk)
    have h1 : ¬ (k : Int) < 0 := by omega
    have h2 : ¬ (11 : Int) ≤ (k : Int) := by omega
    have h3 : (k : Int) < 11 := by omega
    clear h
    go_enter Try.func20, Try.ntmps20
    go_wp2_with fail
    refine (NA.out _).mono ?_
    rintro e w1 ⟨rfl, hb⟩
    have ck : (w1.alloc (.cells nmA 86)).cell? ⟨w1.heap.size, k, none⟩ = some (.string (nmS k)) := by
      rw [cell_of_row _ w1.heap.size k _ _ _ (heap_alloc_new w1 _)]; exact AT.out
    have bel := hb.alloc hb.size (.cells nmA 86)
    unfold nmA at ck bel ⊢
    go_wp2
    go_ret
    exact ⟨by rw [F.out]; rfl, bel⟩
end Go.Proofs.Ytnpmgofkfdpbjaa.Ent
/- Walks: Find of entry; list, Valid, Name, Find of the reference. -/
namespace Go.Proofs.Ytnpmgofkfdpbjaa.Ent
open Go.RowKit Kit

/-- 'a[i]' of an array of strings by value, i in range -/
theorem run_index_strs {P : Program} (w : World) {t e : TypeId} {n : Nat} {cs : Array Value} {k : IntKind} {i : Int} {v : Value} {inf : TypeInfo}
    (ht : P.underlying t = some (.array n e)) (he : P.underlying e = some .string) (hi : P.info? e = some inf) (hs : inf.size = 1)
    (h0 : 0 ≤ i) (h1 : i < n) (hv : cs[i.toNat]? = some v) : (Instr.index t (.agg cs) (.int k i)).run P w = .ok v w := by
  simp [Instr.index, run_underlying ht, asIntOf, h0, h1, part, isAgg, run_underlying he, sizeOf, typeInfo, hi, hs, hv, go_sem]
theorem infoS : (Try.prog.info? 9).map (fun i => (i.zero, i.size, i.bytes)) = some (some (.string ByteArray.empty), 1, 16) := by kernel_rfl
theorem idx_name (k : Nat) (hk : k < 11) (w : World) : (Instr.index 86 (.agg nmA) (.int .i64 (k : Int))).run Try.prog w = .ok (.string (nmS k)) w := by
  obtain ⟨i, hi, hz, hsz, hby⟩ := info_parts infoS
  exact run_index_strs w Try.underlying86 Try.underlying9 hi hsz (by omega) (by omega) (by rw [Int.toNat_natCast]; exact nmA_at k hk)

theorem str_inj {a b : ByteArray} (h : a.toList = b.toList) : a = b := by
  rw [Lib.toList_data, Lib.toList_data] at h
  obtain ⟨x⟩ := a
  obtain ⟨y⟩ := b
  have : x = y := Array.toList_inj.1 h
  rw [this]
theorem str_ne {a b : ByteArray} (h : ¬ a = b) : (a.toList == b.toList) = false := by
  rw [beq_eq_false_iff_ne]; exact fun h' => h (str_inj h')
theorem str_some {a : ByteArray} (h : ¬ a = { data := #[] }) : a.toList.isEmpty = false := by
  cases hl : a.toList with
  | nil => exact absurd (str_inj (b := { data := #[] }) (by rw [hl, Lib.toList_data])) h
  | cons x t => rfl
/-- the reason with a name, among the first k -/
def findF (name : ByteArray) : Nat → Int × Bool
  | 0 => (0, false)
  | k + 1 => if (findF name k).2 = true then findF name k else if nmS k = name ∧ k ≠ 7 then ((k : Int), true) else (0, false)
def findV (name : ByteArray) : Int × Bool := findF name 11
theorem find_none {name : ByteArray} : ∀ {k : Nat}, (∀ j, j < k → ¬ (nmS j = name ∧ j ≠ 7)) → findF name k = (0, false)
  | 0, _ => rfl
  | k + 1, h => by rw [findF, find_none (fun j hj => h j (by omega))]; simp only [Bool.false_eq_true, if_false]; rw [if_neg (h k (by omega))]
theorem find_more {name : ByteArray} {k : Nat} {r : Int} (h : findF name k = (r, true)) : ∀ m, k ≤ m → findF name m = (r, true)
  | 0, hm => by obtain rfl : k = 0 := by omega
                exact h
  | m + 1, hm => by
    rcases (by omega : k = m + 1 ∨ k ≤ m) with rfl | h'
    · exact h
    · rw [findF, find_more h m h']; simp
theorem find_hit {name : ByteArray} {k : Nat} (hk : k < 11) (h : ∀ j, j < k → ¬ (nmS j = name ∧ j ≠ 7)) (h2 : nmS k = name ∧ k ≠ 7) : findV name = ((k : Int), true) := by
  refine find_more (k := k + 1) ?_ 11 (by omega)
  rw [findF, find_none h]; simp only [Bool.false_eq_true, if_false]; rw [if_pos h2]

set_option maxRecDepth 100000 in
set_option maxHeartbeats 4000000 in
theorem find_any (name : ByteArray) (w : World) : Calls Try.prog 21 #[.string name] w fun e w' => e = .returned (.tuple #[.int .i64 (findV name).1, .bool (findV name).2]) ∧ Below w.heap.size w w' := by
  have NA := Lib.hid names_any
  have IX := Lib.hid idx_name
  go_enter Try.func21, Try.ntmps21
  go_wp2_with fail
  refine (NA.out _).mono ?_
  rintro e w1 ⟨rfl, hb⟩
  go_wp2
  go_loop [4, 5, 7] (fun _ _ i => ∃ k : Nat, k ≤ 11 ∧ i = .int .i64 (k : Int) ∧ Hid (∀ j, j < k → ¬ (nmS j = name ∧ j ≠ 7))) (fun _ _ i => 11 - (intOf i).toNat)
  case atStart => exact ⟨0, by omega, rfl, Lib.hid (fun j hj => by omega)⟩
  case round =>
    obtain ⟨k, hk, rfl, hh⟩ := hrel
    by_cases hlt : k < 11
    · have ix := IX.out k hlt
      have hkk : (k : Int) < 11 := by omega
      have E7 := nmS_empty k hlt
      by_cases h1 : nmS k = name
      · by_cases h7 : k = 7
        · subst h7
          have hs := Lib.hid (show ∀ j, j < 7 + 1 → ¬ (nmS j = name ∧ j ≠ 7) from fun j hj => by
            rcases (by omega : j < 7 ∨ j = 7) with h | rfl
            · exact hh.out j h
            · omega)
          rw [E7.2 rfl, show ((7 : Nat) : Int) = 7 from rfl] at ix
          rw [E7.2 rfl] at h1
          rw [show ((7 : Nat) : Int) = 7 from rfl] at hkk ⊢
          subst h1
          clear E7 hh
          go_wp2
          go_round
          case rel => exact ⟨8, by omega, rfl, hs⟩
          case measure => simp [intOf]
        · have F := Lib.hid (find_hit hlt hh.out ⟨h1, h7⟩)
          subst h1
          have hne : ¬ nmS k = { data := #[] } := fun h => h7 (E7.1 h)
          clear E7 hh h7
          have hne' := str_some hne
          clear hne
          generalize hgt : nmS k = t at *
          have HT := Lib.hid hgt
          clear hgt
          go_wp2
          go_ret2
          exact ⟨by rw [HT.out, F.out]; rfl, hb⟩
      · have hs := Lib.hid (show ∀ j, j < k + 1 → ¬ (nmS j = name ∧ j ≠ 7) from fun j hj => by
          rcases (by omega : j < k ∨ j = k) with h | rfl
          · exact hh.out j h
          · exact fun h => h1 h.1)
        have h1' := str_ne h1
        clear E7 hh h1
        generalize nmS k = t at *
        go_wp2
        go_round
        case rel => exact ⟨k + 1, by omega, by go_num, hs⟩
        case measure => simp [intOf]; omega
    · obtain rfl : k = 11 := by omega
      have F := Lib.hid (show findV name = (0, false) from find_none hh.out)
      clear hh
      go_wp2
      go_ret2
      exact ⟨by rw [F.out]; rfl, hb⟩

/-- the reference's list: a hyphen stands for none -/
def rmS (k : Nat) : ByteArray := if k = 7 then { data := #[45] } else nmS k

set_option maxHeartbeats 1000000 in
theorem refvalidR_any (r : Int) (w : World) : Calls Try.prog 36 #[.int .i64 r] w fun e w' => e = .returned (.bool (validR r)) ∧ w = w' := by
  have F := Lib.hid (show validR r = (decide (0 ≤ r) && decide (r ≤ 10) && decide (r ≠ 7)) from by unfold validR; simp [Bool.decide_and, Bool.and_assoc])
  by_cases h0 : 0 ≤ r
  · by_cases h1 : r ≤ 10
    · by_cases h2 : r = 7
      · subst h2
        go_enter Try.func36, Try.ntmps36
        go_wp2
        go_ret
        exact ⟨ret_bool (by rw [F.out]; simp), rfl⟩
      · have h2' : (r != 7) = true := by simpa using h2
        go_enter Try.func36, Try.ntmps36
        go_wp2
        go_ret
        exact ⟨ret_bool (by rw [F.out]; simp [h0, h1, h2]), rfl⟩
    · go_enter Try.func36, Try.ntmps36
      go_wp2
      go_ret
      exact ⟨ret_bool (by rw [F.out]; simp; omega), rfl⟩
  · go_enter Try.func36, Try.ntmps36
    go_wp2
    go_ret
    exact ⟨ret_bool (by rw [F.out]; simp; omega), rfl⟩
end Go.Proofs.Ytnpmgofkfdpbjaa.Ent
/- Walks: list, Name and Find of the reference. -/
namespace Go.Proofs.Ytnpmgofkfdpbjaa.Ent
open Go.RowKit Kit

theorem rmS_all (k : Nat) (hk : k < 11) : (#[
  .string { data := #[117, 110, 115, 112, 101, 99, 105, 102, 105, 101, 100] },
  .string { data := #[107, 101, 121, 67, 111, 109, 112, 114, 111, 109, 105, 115, 101] },
  .string { data := #[99, 65, 67, 111, 109, 112, 114, 111, 109, 105, 115, 101] },
  .string { data := #[97, 102, 102, 105, 108, 105, 97, 116, 105, 111, 110, 67, 104, 97, 110, 103, 101, 100] },
  .string { data := #[115, 117, 112, 101, 114, 115, 101, 100, 101, 100] },
  .string { data := #[99, 101, 115, 115, 97, 116, 105, 111, 110, 79, 102, 79, 112, 101, 114, 97, 116, 105, 111, 110] },
  .string { data := #[99, 101, 114, 116, 105, 102, 105, 99, 97, 116, 101, 72, 111, 108, 100] },
  .string { data := #[45] },
  .string { data := #[114, 101, 109, 111, 118, 101, 70, 114, 111, 109, 67, 82, 76] },
  .string { data := #[112, 114, 105, 118, 105, 108, 101, 103, 101, 87, 105, 116, 104, 100, 114, 97, 119, 110] },
  .string { data := #[97, 65, 67, 111, 109, 112, 114, 111, 109, 105, 115, 101] }
] : Array Value)[k]? = some (.string (rmS k)) := by
  rcases (by omega : k = 0 ∨ k = 1 ∨ k = 2 ∨ k = 3 ∨ k = 4 ∨ k = 5 ∨ k = 6 ∨ k = 7 ∨ k = 8 ∨ k = 9 ∨ k = 10) with rfl | rfl | rfl | rfl | rfl | rfl | rfl | rfl | rfl | rfl | rfl <;> rfl
/-- what list returns -/
def LiP (w : World) (e : Ending) (w' : World) : Prop := ∃ g, e = .returned (.slice (some ⟨g, 0, none⟩) 11 11) ∧ g < w'.heap.size ∧ (∀ k, k < 11 → w'.cell? ⟨g, k, none⟩ = some (.string (rmS k))) ∧ Below w.heap.size w w'

set_option maxRecDepth 100000 in
set_option maxHeartbeats 4000000 in
theorem list_any (w : World) : Calls Try.prog 79 #[] w (LiP w) := by
  have AT := Lib.hid rmS_all
  go_enter Try.func79, Try.ntmps79
  go_wp2
  go_ret
  refine ⟨w.heap.size, rfl, by simp, fun k hk => ?_, (by repeat' (first | (with_reducible exact Below.refl _ _) | (with_reducible assumption) | (with_reducible refine below_drewN ?_ _) | (with_reducible refine Below.drew ?_) | (with_reducible refine Below.alloc ?_ ?_ _) | (with_reducible refine Below.setCell ?_ ?_ _) | go_size))⟩
  rw [cell_of_row _ w.heap.size k _ _ _ (heap_alloc_new w _)]
  exact AT.out k hk
theorem nameV_ok {k : Nat} (hk : k < 11) : nameV (k : Int) = nmS k := by unfold nameV; rw [if_neg (by omega)]; rfl
theorem nameV_bad {r : Int} (h : validR r = false) : nameV r = { data := #[] } := by
  unfold validR at h
  rw [decide_eq_false_iff_not] at h
  unfold nameV
  by_cases g : r < 0 ∨ 11 ≤ r
  · rw [if_pos g]
  · rw [if_neg g]
    obtain rfl : r = 7 := by omega
    rfl

set_option maxRecDepth 100000 in
set_option maxHeartbeats 4000000 in
theorem refname_any (r : Int) (w : World) : Calls Try.prog 23 #[.int .i64 r] w fun e w' => e = .returned (.string (nameV r)) ∧ Below w.heap.size w w' := by
  have VA := Lib.hid (fun w => refvalidR_any r w)
  have LI := Lib.hid list_any
  cases hv : validR r with
  | false =>
    have F := Lib.hid (nameV_bad hv)
    rw [hv] at VA
    clear hv
    go_enter Try.func23, Try.ntmps23
    go_wp2_with (go_at_call 36; refine (VA.out _).mono ?_; rintro e w' ⟨rfl, rfl⟩)
    go_ret
    exact ⟨by rw [F.out]; rfl, (by repeat' (first | (with_reducible exact Below.refl _ _) | (with_reducible assumption) | (with_reducible refine below_drewN ?_ _) | (with_reducible refine Below.drew ?_) | (with_reducible refine Below.alloc ?_ ?_ _) | (with_reducible refine Below.setCell ?_ ?_ _) | go_size))⟩
  | true =>
    rw [hv] at VA
    unfold validR at hv
    rw [decide_eq_true_eq] at hv
    obtain ⟨k, rfl⟩ := Int.eq_ofNat_of_zero_le hv.1
    have hk : k < 11 := by omega
    have F := Lib.hid (nameV_ok hk)
    have R := Lib.hid (show rmS k = nmS k from by unfold rmS; rw [if_neg (by omega)])
    have hk1 : (k : Int) < 11 := by omega
    clear hv
    go_enter Try.func23, Try.ntmps23
    go_wp2_with fail
    refine (VA.out _).mono ?_
    rintro e w' ⟨rfl, rfl⟩
    go_wp2_with fail
    refine (LI.out _).mono ?_
    rintro e w1 ⟨g, rfl, hg, hc, hb⟩
    have ck := hc k hk
    rw [R.out] at ck
    clear hc
    go_wp2
    go_ret
    exact ⟨by rw [F.out]; rfl, hb⟩

set_option maxRecDepth 100000 in
set_option maxHeartbeats 4000000 in
theorem reffind_any (name : ByteArray) (w : World) : Calls Try.prog 22 #[.string name] w fun e w' => e = .returned (.tuple #[.int .i64 (findV name).1, .bool (findV name).2]) ∧ Below w.heap.size w w' := by
  have VA := Lib.hid refvalidR_any
  have NA := Lib.hid refname_any
  go_enter Try.func22, Try.ntmps22
  go_wp2
  go_loopw [4] (fun i wr => ∃ k : Nat, k ≤ 11 ∧ i = .int .i64 (k : Int) ∧ Below w.heap.size w wr ∧ Hid (∀ j, j < k → ¬ (nmS j = name ∧ j ≠ 7))) (fun i _ => 11 - (intOf i).toNat)
  case atStart => exact ⟨0, by omega, rfl, Below.refl _ _, Lib.hid (fun j hj => by omega)⟩
  case round =>
    obtain ⟨k, hk, rfl, bel, hh⟩ := hrel
    by_cases hlt : k < 11
    · have hkk : (k : Int) ≤ 10 := by omega
      have V := Lib.hid (fun w => VA.out (k : Int) w)
      have N := Lib.hid (fun w => NA.out (k : Int) w)
      rw [nameV_ok hlt] at N
      by_cases h7 : k = 7
      · have hs := Lib.hid (show ∀ j, j < k + 1 → ¬ (nmS j = name ∧ j ≠ 7) from fun j hj => by
          rcases (by omega : j < k ∨ j = k) with h | rfl
          · exact hh.out j h
          · omega)
        rw [show validR (k : Int) = false from by unfold validR; rw [decide_eq_false_iff_not]; omega] at V
        clear hh h7
        go_wp2_with (go_at_call 36; refine (V.out _).mono ?_; rintro e w' ⟨rfl, rfl⟩)
        go_roundw
        case rel => exact ⟨k + 1, by omega, by go_num, bel, hs⟩
        case measure => simp [intOf]; omega
      · rw [show validR (k : Int) = true from by unfold validR; rw [decide_eq_true_eq]; omega] at V
        by_cases h1 : nmS k = name
        · have F := Lib.hid (find_hit hlt hh.out ⟨h1, h7⟩)
          rw [h1] at N
          clear hh h7 h1
          go_wp2_with (first | (go_at_call 36; refine (V.out _).mono ?_; rintro e w' ⟨rfl, rfl⟩) | (go_at_call 23; refine (N.out _).mono ?_; rintro e w2 ⟨rfl, hb⟩))
          go_ret2
          exact ⟨by rw [F.out]; rfl, bel.trans (hb.mono bel.size)⟩
        · have hs := Lib.hid (show ∀ j, j < k + 1 → ¬ (nmS j = name ∧ j ≠ 7) from fun j hj => by
            rcases (by omega : j < k ∨ j = k) with h | rfl
            · exact hh.out j h
            · exact fun h => h1 h.1)
          have h1' := str_ne h1
          clear hh h7 h1
          generalize nmS k = t at *
          go_wp2_with (first | (go_at_call 36; refine (V.out _).mono ?_; rintro e w' ⟨rfl, rfl⟩) | (go_at_call 23; refine (N.out _).mono ?_; rintro e w2 ⟨rfl, hb⟩))
          go_roundw
          case rel => exact ⟨k + 1, by omega, by go_num, bel.trans (hb.mono bel.size), hs⟩
          case measure => simp [intOf]; omega
    · obtain rfl : k = 11 := by omega
      have F := Lib.hid (show findV name = (0, false) from find_none hh.out)
      clear hh
      go_wp2
      go_ret2
      exact ⟨by rw [F.out]; rfl, bel⟩
end Go.Proofs.Ytnpmgofkfdpbjaa.Ent
/- Walks: Valid, Marshal and MarshalDate of entry; law21.awake. -/
namespace Go.Proofs.Ytnpmgofkfdpbjaa.Ent
open Go.RowKit Kit Tlv

theorem nameV_empty (r : Int) : (validR r = true → ¬ nameV r = { data := #[] }) ∧ (validR r = false → nameV r = { data := #[] }) := by
  refine ⟨fun h => ?_, nameV_bad⟩
  unfold validR at h
  rw [decide_eq_true_eq] at h
  obtain ⟨k, rfl⟩ := Int.eq_ofNat_of_zero_le h.1
  rw [nameV_ok (by omega)]
  exact fun h' => by have := (nmS_empty k (by omega)).1 h'; omega

set_option maxHeartbeats 1000000 in
theorem validR_any (r : Int) (w : World) : Calls Try.prog 35 #[.int .i64 r] w fun e w' => e = .returned (.bool (validR r)) ∧ Below w.heap.size w w' := by
  have N := Lib.hid (fun w => name_any r w)
  obtain ⟨h1, h2⟩ := nameV_empty r
  cases hv : validR r with
  | false =>
    rw [h2 hv] at N
    clear h1 h2 hv
    go_enter Try.func35, Try.ntmps35
    go_wp2_with (go_at_call 20; refine (N.out _).mono ?_; rintro e w1 ⟨rfl, hb⟩)
    go_ret
    exact ⟨rfl, hb⟩
  | true =>
    have hs := str_some (h1 hv)
    clear h1 h2 hv
    generalize nameV r = t at *
    go_enter Try.func35, Try.ntmps35
    go_wp2_with (go_at_call 20; refine (N.out _).mono ?_; rintro e w1 ⟨rfl, hb⟩)
    go_ret
    exact ⟨(by first | rfl | exact ret_bool (by simp [hs])), hb⟩
/-- the encoding of a reason -/
def reasL (r : Int) : List UInt8 := if validR r = true then [10, 1, ofI r] else []
def reasC (r : Int) : Int := if validR r = true then 0 else 8
theorem reas_enc {r : Int} (h : validR r = true) : encL 0 false 10 (Int4.intL r) = reasL r ∧ encCode 0 10 (Int4.intL r).length = 0 ∧ (Int4.intL r).length = 1 := by
  have h' := h
  unfold validR at h'
  rw [decide_eq_true_eq] at h'
  have e : Int4.intL r = [ofI (r % 256)] := Int4.intL_small (by omega)
  rw [e, show r % 256 = r from by omega]
  have hc : encCode 0 10 ([ofI r] : List UInt8).length = 0 := by rw [show ([ofI r] : List UInt8).length = 1 from rfl]; decide
  refine ⟨?_, hc, rfl⟩
  unfold reasL
  rw [if_pos h, (enc_ok false [ofI r] (by decide) (by rw [show ([ofI r] : List UInt8).length = 1 from rfl]; decide)).1]
  rw [show ([ofI r] : List UInt8).length = 1 from rfl, show lenL ((1 : Nat) : Int) = [1] from by decide +kernel, show idByte 0 false 10 = 10 from by decide]
  rfl
/-- what Marshal returns -/
def MarP (w : World) (u : List UInt8) (cd : Int) (e : Ending) (w' : World) : Prop :=
  ∃ A' c', e = .returned (.tuple #[.slice A' u.length c', .int .i64 cd]) ∧ Own w' w.heap.size A' u.length c' u ∧ Below w.heap.size w w'

set_option maxHeartbeats 2000000 in
theorem marshalR_any (r : Int) (w : World) : Calls Try.prog 31 #[.int .i64 r] w (MarP w (reasL r) (reasC r)) := by
  have V := Lib.hid (fun w => validR_any r w)
  cases hv : validR r with
  | false =>
    have F := Lib.hid (show reasL r = [] ∧ reasC r = 8 from by unfold reasL reasC; simp [hv])
    rw [hv] at V
    clear hv
    go_enter Try.func31, Try.ntmps31
    go_wp2_with (go_at_call 35; refine (V.out _).mono ?_; rintro e w1 ⟨rfl, hb⟩)
    go_ret2
    unfold MarP
    rw [F.out.1, F.out.2]
    exact ⟨none, 0, rfl, Own.none_ _ _, hb⟩
  | true =>
    obtain ⟨f1, f2, f3⟩ := reas_enc hv
    have F := Lib.hid (show reasC r = 0 from by unfold reasC; rw [if_pos hv])
    have F1 := Lib.hid f1
    have F2 := Lib.hid f2
    have F3 := Lib.hid f3
    rw [hv] at V
    unfold validR at hv
    rw [decide_eq_true_eq] at hv
    have FI := Lib.hid (fun w => Int4.fromint_any r w (by omega) (by omega))
    obtain ⟨u, hu⟩ : ∃ u, Int4.intL r = u := ⟨_, rfl⟩
    rw [hu] at FI F1 F2 F3
    clear hv f1 f2 f3 hu
    go_enter Try.func31, Try.ntmps31
    go_wp2_with fail
    refine (V.out _).mono ?_
    rintro e w1 ⟨rfl, hb1⟩
    go_wp2_with fail
    refine (FI.out _).mono ?_
    rintro e w2 ⟨A2, c2, rfl, r2, _, _, hb2⟩
    have bel := hb1.trans (hb2.mono hb1.size)
    have z := bel.size
    have W := Lib.hid (fun cc => wrap_any 0 10 false _ (cat_one (cc := cc) (t := 29) w2 w2.heap.size (c := c2) r2 (Nat.le_refl _) rfl (by have := F3.out; omega)) (by have := F3.out; omega))
    clear r2 hb1 hb2 V FI
    go_wp2_with fail
    refine (W.out _).mono ?_
    rintro e w3 ⟨A3, c3, rfl, o3, hb3⟩
    go_wp2_with fail
    go_ret2
    unfold MarP
    rw [F.out, ← F1.out]
    refine ⟨A3, c3, by rw [F2.out]; rfl, o3.mono (by simp; omega), (bel.alloc z _).trans (hb3.mono (by simp; omega))⟩
/-- the encoding of a date -/
def dateC (y m d h mi s : Int) : Int := if Clk.genCode y m d h mi s = 0 then 0 else 8
def dateL (y m d h mi s : Int) : List UInt8 := if Clk.genCode y m d h mi s = 0 then encL 0 false 24 (Clk.genBytes y m d h mi s) else []
end Go.Proofs.Ytnpmgofkfdpbjaa.Ent
/- Walks: MarshalDate of entry, where the date is valid. -/
namespace Go.Proofs.Ytnpmgofkfdpbjaa.Ent
open Go.RowKit Kit Tlv

set_option maxHeartbeats 2000000 in
theorem mdate_ok (y m d h mi s : Int) (w : World) (hc : Clk.genCode y m d h mi s = 0) (hl : (Clk.genBytes y m d h mi s).length = 15) :
    Calls Try.prog 38 #[Clk.time y m d h mi s] w (MarP w (encL 0 false 24 (Clk.genBytes y m d h mi s)) 0) := by
  have G := Lib.hid (fun w => Clk.encGen_any y m d h mi s w)
  rw [hc] at G
  have F3 := Lib.hid hl
  have F2 := Lib.hid (show encCode 0 24 (Clk.genBytes y m d h mi s).length = 0 from by rw [hl]; decide)
  generalize Clk.genBytes y m d h mi s = u at *
  clear hc hl
  go_enter Try.func38, Try.ntmps38
  go_wp2_with fail
  refine (G.out _).mono ?_
  rintro e w1 ⟨A1, n1, c1, rfl, o1, hb1⟩
  have bel := ((Below.refl w.heap.size w).alloc (Nat.le_refl _) (.cells #[.int .i64 y, .int .i64 m, .int .i64 d, .int .i64 h, .int .i64 mi, .int .i64 s] 28)).trans (hb1.mono (by simp))
  have z := bel.size
  have L := o1.rd.len
  obtain rfl : n1 = 15 := by rw [← L]; exact F3.out
  have W := Lib.hid (fun cc => wrap_any 0 24 false _ (cat_one (cc := cc) (t := 29) w1 _ (c := c1) o1.rd (Nat.le_refl _) rfl (by omega)) (by omega))
  clear o1 hb1 G L
  go_wp2_with fail
  refine (W.out _).mono ?_
  rintro e w3 ⟨A3, c3, rfl, o3, hb3⟩
  go_wp2_with fail
  go_ret2
  unfold MarP
  refine ⟨A3, c3, by rw [F2.out]; rfl, o3.mono (by simp; omega), (bel.alloc z _).trans (hb3.mono (by simp; omega))⟩
end Go.Proofs.Ytnpmgofkfdpbjaa.Ent
/- The walks of law21.awake and of EntryNames. -/
namespace Go.Proofs.Ytnpmgofkfdpbjaa.Ent
open Go.RowKit Kit Tlv

theorem dl0 : encL 0 false 24 (Clk.genBytes 2000 1 1 0 0 0) = [24, 15, 50, 48, 48, 48, 48, 49, 48, 49, 48, 48, 48, 48, 48, 48, 90] := by decide +kernel

set_option maxRecDepth 100000 in
set_option maxHeartbeats 4000000 in
theorem awake21_any (w : World) : Calls Try.prog 19 #[] w fun e w' => e = .returned (.bool true) ∧ Below w.heap.size w w' := by
  have C1 := Lib.hid (fun (w : World) => marshalR_any 1 w)
  rw [show reasL 1 = [10, 1, 1] from by decide +kernel, show reasC 1 = 0 from by decide +kernel] at C1
  have C2 := Lib.hid (fun (w : World) => mdate_ok 2000 1 1 0 0 0 w (by decide +kernel) (by decide +kernel))
  rw [dl0] at C2
  have C3 := Lib.hid (fun (w : World) => find_any { data := #[114, 101, 109, 111, 118, 101, 70, 114, 111, 109, 67, 82, 76] } w)
  rw [show findV { data := #[114, 101, 109, 111, 118, 101, 70, 114, 111, 109, 67, 82, 76] } = (8, true) from by decide +kernel] at C3
  have C4 := Lib.hid (fun (w : World) => name_any 1 w)
  rw [show nameV 1 = { data := #[107, 101, 121, 67, 111, 109, 112, 114, 111, 109, 105, 115, 101] } from by decide +kernel] at C4
  go_enter Try.func19, Try.ntmps19
  go_wp2_with fail
  refine Calls.mono (C1.out _) ?_
  rintro e w1 ⟨A1, c1, rfl, o1, hb1⟩
  simp only [List.length_cons, List.length_nil, Nat.zero_add, Nat.reduceAdd] at o1 ⊢
  have r1 := o1.rd
  have bel := hb1
  clear o1 hb1 C1
  go_wp2_with fail
  refine Calls.mono (C2.out _) ?_
  rintro e w2 ⟨A2, c2, rfl, o2, hb2⟩
  simp only [List.length_cons, List.length_nil, Nat.zero_add, Nat.reduceAdd] at o2 ⊢
  have r2 := o2.rd
  replace r1 := r1.past hb2
  replace bel := two_belowK bel hb2 bel.size
  clear o2 hb2 C2
  go_wp2_with fail
  refine Calls.mono (C3.out _) ?_
  rintro e w3 ⟨rfl, hb3⟩
  replace r1 := r1.past hb3
  replace r2 := r2.past hb3
  replace bel := two_belowK bel hb3 bel.size
  clear hb3 C3
  go_wp2_with fail
  refine Calls.mono (bytesK _ _ _ _ _ _ [10, 1, 1] [10, 1, 1] _ (r1.allocS _) ?_) ?_
  · (refine litK _ [10, 1, 1] [10, 1, 1] _ _ ?_ ?_ ?_ ?_ <;> first | rfl | decide | (simp; done))
  rw [Cur.eqB_self]
  rintro e w' ⟨rfl, rfl⟩
  replace bel := bel.alloc bel.size (.cells #[.int .u8 10, .int .u8 1, .int .u8 1] 5)
  replace r2 := r2.allocS (.cells #[.int .u8 10, .int .u8 1, .int .u8 1] 5)
  have hst := run_str (P := Try.prog) (c := c2) r2 29 5 9 Try.underlying29 Try.underlying5 Try.underlying9
  clear r1 r2
  go_wp2_with fail
  refine Calls.mono (C4.out _) ?_
  rintro e w4 ⟨rfl, hb4⟩
  replace bel := two_belowK bel hb4 bel.size
  clear hb4 hst
  go_wp2_with fail
  go_ret
  exact ⟨(by first | rfl | exact ret_bool (by simp)), bel⟩
end Go.Proofs.Ytnpmgofkfdpbjaa.Ent
