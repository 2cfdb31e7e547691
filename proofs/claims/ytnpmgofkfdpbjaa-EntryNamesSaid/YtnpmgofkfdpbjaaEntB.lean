/- Walks: Find of entry; list, Valid, Name, Find of the reference. -/
import Derived.Test.YtnpmgofkfdpbjaaEntA
import Derived.Lib.Strings
set_option linter.unusedSimpArgs false
set_option linter.unusedVariables false
namespace Go.Proofs.Ytnpmgofkfdpbjaa.Ent
open Go.RowKit Kit

/-- 'a[i]' of an array of strings by value, i in range -/
theorem run_index_strs {P : Program} (w : World) {t e : TypeId} {n : Nat} {cs : Array Value} {k : IntKind} {i : Int} {v : Value} {inf : TypeInfo}
    (ht : P.underlying t = some (.array n e)) (he : P.underlying e = some .string) (hi : P.info? e = some inf) (hs : inf.size = 1)
    (h0 : 0 ≤ i) (h1 : i < n) (hv : cs[i.toNat]? = some v) : (Instr.index t (.agg cs) (.int k i)).run P w = .ok v w := by
  simp [Instr.index, run_underlying ht, asIntOf, h0, h1, part, isAgg, run_underlying he, sizeOf, typeInfo, hi, hs, hv, go_sem]
theorem infoS : (Try.prog.info? 9).map (fun i => (i.zero, i.size, i.bytes)) = some (some (.string ByteArray.empty), 1, 16) := by kernel_rfl
theorem idx_name (k : Nat) (hk : k < 11) (w : World) : (Instr.index 86 (.agg nmA) (.int .i64 (k : Int))).run Try.prog w = .ok (.string (nmS k)) w := by
  obtain ⟨i, hi, hz, hsz, hby⟩ := info_parts infoS
  exact run_index_strs w Try.underlying86 Try.underlying9 hi hsz (by omega) (by omega) (by rw [Int.toNat_natCast]; exact nmA_at k hk)

theorem str_inj {a b : ByteArray} (h : a.toList = b.toList) : a = b := by
  rw [Lib.toList_data, Lib.toList_data] at h
  obtain ⟨x⟩ := a
  obtain ⟨y⟩ := b
  have : x = y := Array.toList_inj.1 h
  rw [this]
theorem str_ne {a b : ByteArray} (h : ¬ a = b) : (a.toList == b.toList) = false := by
  rw [beq_eq_false_iff_ne]; exact fun h' => h (str_inj h')
theorem str_some {a : ByteArray} (h : ¬ a = { data := #[] }) : a.toList.isEmpty = false := by
  cases hl : a.toList with
  | nil => exact absurd (str_inj (b := { data := #[] }) (by rw [hl, Lib.toList_data])) h
  | cons x t => rfl
/-- the reason with a name, among the first k -/
def findF (name : ByteArray) : Nat → Int × Bool
  | 0 => (0, false)
  | k + 1 => if (findF name k).2 = true then findF name k else if nmS k = name ∧ k ≠ 7 then ((k : Int), true) else (0, false)
def findV (name : ByteArray) : Int × Bool := findF name 11
theorem find_none {name : ByteArray} : ∀ {k : Nat}, (∀ j, j < k → ¬ (nmS j = name ∧ j ≠ 7)) → findF name k = (0, false)
  | 0, _ => rfl
  | k + 1, h => by rw [findF, find_none (fun j hj => h j (by omega))]; simp only [Bool.false_eq_true, if_false]; rw [if_neg (h k (by omega))]
theorem find_more {name : ByteArray} {k : Nat} {r : Int} (h : findF name k = (r, true)) : ∀ m, k ≤ m → findF name m = (r, true)
  | 0, hm => by obtain rfl : k = 0 := by omega
                exact h
  | m + 1, hm => by
    rcases (by omega : k = m + 1 ∨ k ≤ m) with rfl | h'
    · exact h
    · rw [findF, find_more h m h']; simp
theorem find_hit {name : ByteArray} {k : Nat} (hk : k < 11) (h : ∀ j, j < k → ¬ (nmS j = name ∧ j ≠ 7)) (h2 : nmS k = name ∧ k ≠ 7) : findV name = ((k : Int), true) := by
  refine find_more (k := k + 1) ?_ 11 (by omega)
  rw [findF, find_none h]; simp only [Bool.false_eq_true, if_false]; rw [if_pos h2]

set_option maxRecDepth 100000 in
set_option maxHeartbeats 4000000 in
theorem find_any (name : ByteArray) (w : World) : Calls Try.prog 21 #[.string name] w fun e w' => e = .returned (.tuple #[.int .i64 (findV name).1, .bool (findV name).2]) ∧ Below w.heap.size w w' := by
  have NA := Lib.hid names_any
  have IX := Lib.hid idx_name
  go_enter Try.func21, Try.ntmps21
  go_wp2_with fail
  refine (NA.out _).mono ?_
  rintro e w1 ⟨rfl, hb⟩
  go_wp2
  go_loop [4, 5, 7] (fun _ _ i => ∃ k : Nat, k ≤ 11 ∧ i = .int .i64 (k : Int) ∧ Hid (∀ j, j < k → ¬ (nmS j = name ∧ j ≠ 7))) (fun _ _ i => 11 - (intOf i).toNat)
  case atStart => exact ⟨0, by omega, rfl, Lib.hid (fun j hj => by omega)⟩
  case round =>
    obtain ⟨k, hk, rfl, hh⟩ := hrel
    by_cases hlt : k < 11
    · have ix := IX.out k hlt
      have hkk : (k : Int) < 11 := by omega
      have E7 := nmS_empty k hlt
      by_cases h1 : nmS k = name
      · by_cases h7 : k = 7
        · subst h7
          have hs := Lib.hid (show ∀ j, j < 7 + 1 → ¬ (nmS j = name ∧ j ≠ 7) from fun j hj => by
            rcases (by omega : j < 7 ∨ j = 7) with h | rfl
            · exact hh.out j h
            · omega)
          rw [E7.2 rfl, show ((7 : Nat) : Int) = 7 from rfl] at ix
          rw [E7.2 rfl] at h1
          rw [show ((7 : Nat) : Int) = 7 from rfl] at hkk ⊢
          subst h1
          clear E7 hh
          go_wp2
          go_round
          case rel => exact ⟨8, by omega, rfl, hs⟩
          case measure => simp [intOf]
        · have F := Lib.hid (find_hit hlt hh.out ⟨h1, h7⟩)
          subst h1
          have hne : ¬ nmS k = { data := #[] } := fun h => h7 (E7.1 h)
          clear E7 hh h7
          have hne' := str_some hne
          clear hne
          generalize hgt : nmS k = t at *
          have HT := Lib.hid hgt
          clear hgt
          go_wp2
          go_ret2
          exact ⟨by rw [HT.out, F.out]; rfl, hb⟩
      · have hs := Lib.hid (show ∀ j, j < k + 1 → ¬ (nmS j = name ∧ j ≠ 7) from fun j hj => by
          rcases (by omega : j < k ∨ j = k) with h | rfl
          · exact hh.out j h
          · exact fun h => h1 h.1)
        have h1' := str_ne h1
        clear E7 hh h1
        generalize nmS k = t at *
        go_wp2
        go_round
        case rel => exact ⟨k + 1, by omega, by go_num, hs⟩
        case measure => simp [intOf]; omega
    · obtain rfl : k = 11 := by omega
      have F := Lib.hid (show findV name = (0, false) from find_none hh.out)
      clear hh
      go_wp2
      go_ret2
      exact ⟨by rw [F.out]; rfl, hb⟩

/-- the reference's list: a hyphen stands for none -/
def rmS (k : Nat) : ByteArray := if k = 7 then { data := #[45] } else nmS k

set_option maxHeartbeats 1000000 in
theorem refvalidR_any (r : Int) (w : World) : Calls Try.prog 36 #[.int .i64 r] w fun e w' => e = .returned (.bool (validR r)) ∧ w = w' := by
  have F := Lib.hid (show validR r = (decide (0 ≤ r) && decide (r ≤ 10) && decide (r ≠ 7)) from by unfold validR; simp [Bool.decide_and, Bool.and_assoc])
  by_cases h0 : 0 ≤ r
  · by_cases h1 : r ≤ 10
    · by_cases h2 : r = 7
      · subst h2
        go_enter Try.func36, Try.ntmps36
        go_wp2
        go_ret
        exact ⟨ret_bool (by rw [F.out]; simp), rfl⟩
      · have h2' : (r != 7) = true := by simpa using h2
        go_enter Try.func36, Try.ntmps36
        go_wp2
        go_ret
        exact ⟨ret_bool (by rw [F.out]; simp [h0, h1, h2]), rfl⟩
    · go_enter Try.func36, Try.ntmps36
      go_wp2
      go_ret
      exact ⟨ret_bool (by rw [F.out]; simp; omega), rfl⟩
  · go_enter Try.func36, Try.ntmps36
    go_wp2
    go_ret
    exact ⟨ret_bool (by rw [F.out]; simp; omega), rfl⟩
end Go.Proofs.Ytnpmgofkfdpbjaa.Ent
