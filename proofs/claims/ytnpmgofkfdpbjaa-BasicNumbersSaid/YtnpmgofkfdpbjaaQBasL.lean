/- The walk of BasicNumbers. -/
import Derived.Test.YtnpmgofkfdpbjaaKS
set_option linter.unusedSimpArgs false
set_option linter.unusedVariables false
namespace Go.Proofs.Ytnpmgofkfdpbjaa
open Go.RowKit Kit Tlv Bas

theorem Bas.parcount_back {A : Option Addr} {n c B : Nat} {v : Int} (hv : cntB v = true) (w : World) (hr : Rd w B A n (cntL v)) (hB : B ≤ w.heap.size) (hc : n ≤ c) (hm : c ≤ maxLen) :
    Calls Try.prog 74 #[.slice A n c] w fun e w' => e = .returned (.tuple #[.int .i64 v, err 0 0]) ∧ Below w.heap.size w w' := by
  have hl := hr.len
  have := cnt_len v
  rcases parcount_any w hr hB hc hm (by omega) with ⟨u, h1, h2, h3⟩ | ⟨h1, _⟩
  · rw [(cnt_yes hv).2, (cnt_yes h1).2] at h2
    obtain ⟨_, _, rfl⟩ := nm_inj (by omega) (by omega) (by omega) (by omega) hv h1 h2
    exact h3
  · exact absurd rfl (h1 v hv)
theorem Bas.parnum_back {A : Option Addr} {n c B : Nat} {q : List UInt8} (hv : numB q = true) (w : World) (hr : Rd w B A n (numL q)) (hB : B ≤ w.heap.size) (hc : n ≤ c) (hm : c ≤ maxLen) :
    Calls Try.prog 75 #[.slice A n c] w fun e w' => ∃ A' c', e = .returned (.tuple #[.slice A' q.length c', err 0 0]) ∧ Own w' w.heap.size A' q.length c' q ∧ Below w.heap.size w w' := by
  have hl := hr.len
  have := num_len q
  rcases parnum_any w hr hB hc hm (by omega) with ⟨u, h1, h2, h3⟩ | ⟨h1, _⟩
  · rw [(num_yes hv).2, (num_yes h1).2] at h2
    obtain rfl := (Val.enc_inj (num_code h1).1 (num_code hv).1 h2).2.2.2
    exact h3
  · exact absurd rfl (h1 q hv)
/-- whatever ParseCount, ParseNumber return of the octets of a number that is none -/
theorem Bas.parcount_some {A : Option Addr} {n c B : Nat} {l : List UInt8} (w : World) (hr : Rd w B A n l) (hB : B ≤ w.heap.size) (hc : n ≤ c) (hm : c ≤ maxLen) (hn : n ≤ 1000000) :
    ∃ v k o, Calls Try.prog 74 #[.slice A n c] w fun e w' => e = .returned (.tuple #[.int .i64 v, err k o]) ∧ Below w.heap.size w w' := by
  rcases parcount_any w hr hB hc hm hn with ⟨u, _, _, h3⟩ | ⟨_, k, o, _, _, _, h3⟩
  · exact ⟨u, 0, 0, h3⟩
  · exact ⟨0, k, o, h3⟩
theorem Bas.parnum_some {A : Option Addr} {n c B : Nat} {l : List UInt8} (w : World) (hr : Rd w B A n l) (hB : B ≤ w.heap.size) (hc : n ≤ c) (hm : c ≤ maxLen) (hn : n ≤ 1000000) :
    ∃ q k o, Calls Try.prog 75 #[.slice A n c] w fun e w' => ∃ A' c', e = .returned (.tuple #[.slice A' q.length c', err k o]) ∧ Own w' w.heap.size A' q.length c' q ∧ Below w.heap.size w w' := by
  rcases parnum_any w hr hB hc hm hn with ⟨u, _, _, h3⟩ | ⟨_, k, o, _, _, _, h3⟩
  · exact ⟨u, 0, 0, h3⟩
  · exact ⟨[], k, o, h3⟩

set_option maxRecDepth 100000 in
set_option maxHeartbeats 4000000 in
theorem BasicNumbers.walk (v : Int) (A : Option Addr) (n c : Nat) (l : List UInt8) (W : World) (bd : -9223372036854775808 ≤ v ∧ v ≤ 9223372036854775807) (hr : Rd W W.heap.size A n l) (hc : n ≤ c) (hm : c ≤ maxLen) :
    Calls Try.prog 17 #[.int .i64 v, .slice A n c] W fun e w' => e = .returned (.bool true) ∧ Below W.heap.size W w' := by
  have hl := hr.len
  have HR := Lib.hid hr
  clear hr
  by_cases hn : 200 < n
  · have hn' : (200 : Int) < (n : Int) := by omega
    go_enter Try.func17, Try.ntmps17
    go_wp2_with fail
    go_must (go_fit (awake16_any _))
    rintro e w1 ⟨rfl, hb1⟩
    go_wp2_with fail
    go_must (go_fit (awake16_any _))
    rintro e w2 ⟨rfl, hb2⟩
    go_wp2
    go_ret
    exact ⟨rfl, two_belowK hb1 hb2 hb1.size⟩
  have hn' : ¬ (200 : Int) < (n : Int) := by omega
  have M1 := Lib.hid (fun w => marcount_any v w)
  have M2 := Lib.hid (fun w => refmarcount_any v w)
  have M3 := Lib.hid (fun (X : World) (h : Below W.heap.size W X) => marnum_any (c := c) X (HR.out.below h) h.size)
  have M4 := Lib.hid (fun (X : World) (h : Below W.heap.size W X) => refmarnum_any (c := c) X (HR.out.below h) h.size (by omega))
  have V1 := Lib.hid (fun (X : World) (h : Below W.heap.size W X) => validnum_any (c := c) X (HR.out.below h) h.size)
  have V2 := Lib.hid (fun (X : World) (h : Below W.heap.size W X) => refvalidnum_any (c := c) X (HR.out.below h) h.size (by omega))
  have LC := Lib.hid (cnt_len v)
  have LN := Lib.hid (num_len l)
  have PC : Hid (∀ (X : World) (A : Option Addr) (c : Nat), Rd X X.heap.size A (cntL v).length (cntL v) → (cntL v).length ≤ c → c ≤ maxLen → ∃ u k o, (Calls Try.prog 74 #[.slice A (cntL v).length c] X fun e w' => e = .returned (.tuple #[.int .i64 u, err k o]) ∧ Below X.heap.size X w') ∧ (cntC v = 0 → u = v ∧ k = 0 ∧ o = 0)) := Lib.hid (by
    intro X A c hr hc hm
    cases hv : cntB v with
    | true => exact ⟨v, 0, 0, parcount_back hv X hr (Nat.le_refl _) hc hm, fun _ => ⟨rfl, rfl, rfl⟩⟩
    | false =>
      obtain ⟨u, k, o, h⟩ := parcount_some X hr (Nat.le_refl _) hc hm (by have := LC.out; omega)
      exact ⟨u, k, o, h, fun h' => by rw [(cnt_no hv).1] at h'; omega⟩)
  have PN : Hid (∀ (X : World) (A : Option Addr) (c : Nat), Rd X X.heap.size A (numL l).length (numL l) → (numL l).length ≤ c → c ≤ maxLen → ∃ q k o, (Calls Try.prog 75 #[.slice A (numL l).length c] X fun e w' => ∃ A' c', e = .returned (.tuple #[.slice A' q.length c', err k o]) ∧ Own w' X.heap.size A' q.length c' q ∧ Below X.heap.size X w') ∧ (numC l = 0 → q = l ∧ k = 0 ∧ o = 0)) := Lib.hid (by
    intro X A c hr hc hm
    cases hv : numB l with
    | true => exact ⟨l, 0, 0, parnum_back hv X hr (Nat.le_refl _) hc hm, fun _ => ⟨rfl, rfl, rfl⟩⟩
    | false =>
      obtain ⟨u, k, o, h⟩ := parnum_some X hr (Nat.le_refl _) hc hm (by have := LN.out; omega)
      exact ⟨u, k, o, h, fun h' => by rw [(num_no hv).1] at h'; omega⟩)
  generalize cntL v = L1 at *
  generalize cntC v = k1 at *
  generalize numL l = L2 at *
  generalize numC l = k2 at *
  generalize numB l = nb at *
  clear hl
  go_enter Try.func17, Try.ntmps17
  go_wp2_with fail
  go_must (go_fit (awake16_any _))
  rintro e w1 ⟨rfl, hb1⟩
  have B1 := Lib.hid hb1
  clear hb1
  go_wp2_with fail
  go_must (go_fit (M1.out _))
  rintro e w2 ⟨A1, c1, rfl, o1, hb2⟩
  have hc1 := Lib.hid o1.cap
  have hm1 := Lib.hid o1.capMax
  have R1 := Lib.hid o1.rd
  have B2 := Lib.hid (two_belowK B1.out hb2 B1.out.size)
  clear o1 hb2 B1
  go_wp2_with fail
  go_must (go_fit (M2.out _))
  rintro e w3 ⟨A2, c2, rfl, o2, hb3⟩
  have R1 := Lib.hid (R1.out.past hb3)
  have R2 := Lib.hid o2.rd
  have B3 := Lib.hid (two_belowK B2.out hb3 B2.out.size)
  clear o2 hb3 B2
  have M3' := Lib.hid (M3.out w3 B3.out)
  go_wp2_with fail
  go_must (go_fit M3'.out)
  rintro e w4 ⟨A3, c3, rfl, o3, hb4⟩
  have hc3 := Lib.hid o3.cap
  have hm3 := Lib.hid o3.capMax
  have R1 := Lib.hid (R1.out.past hb4)
  have R2 := Lib.hid (R2.out.past hb4)
  have R3 := Lib.hid o3.rd
  have B4 := Lib.hid (two_belowK B3.out hb4 B3.out.size)
  clear o3 hb4 B3 M3'
  have M4' := Lib.hid (M4.out w4 B4.out)
  go_wp2_with fail
  go_must (go_fit M4'.out)
  rintro e w5 ⟨A4, c4, rfl, o4, hb5⟩
  have R1 := Lib.hid (R1.out.past hb5)
  have R2 := Lib.hid (R2.out.past hb5)
  have R3 := Lib.hid (R3.out.past hb5)
  have R4 := Lib.hid o4.rd
  have B5 := Lib.hid (two_belowK B4.out hb5 B4.out.size)
  clear o4 hb5 B4 M4'
  have BY1 := Lib.hid (Cur.bytes_any A1 A2 L1.length c1 L1.length c2 _ _ w5 R1.out R2.out)
  rw [Cur.eqB_self] at BY1
  have BY2 := Lib.hid (Cur.bytes_any A3 A4 L2.length c3 L2.length c4 _ _ w5 R3.out R4.out)
  rw [Cur.eqB_self] at BY2
  have V1' := Lib.hid (V1.out w5 B5.out)
  have V2' := Lib.hid (V2.out w5 B5.out)
  clear M1 M2 M3 M4 V1 V2
  go_wp2_with fail
  go_must (go_fit BY1.out)
  rintro e w6 ⟨rfl, rfl⟩
  go_wp2_with fail
  go_must (go_fit BY2.out)
  rintro e w6 ⟨rfl, rfl⟩
  go_wp2_with fail
  go_must (go_fit V1'.out)
  rintro e w6 ⟨rfl, rfl⟩
  go_wp2_with fail
  go_must (go_fit V2'.out)
  rintro e w6 ⟨rfl, rfl⟩
  obtain ⟨u, pk, po, hpc, hcl⟩ := PC.out w5 A1 c1 R1.out hc1.out hm1.out
  have PP := Lib.hid hpc
  have HCL := Lib.hid hcl
  clear hpc hcl PC
  go_wp2_with fail
  go_must (go_fit PP.out)
  rintro e w6 ⟨rfl, hb6⟩
  have t6 : (w6.alloc (.cells #[.int .i64 pk, .int .i64 po] 36)).heap[w6.heap.size]? = _ := bk_new rfl
  have B6 := Lib.hid ((two_belowK B5.out hb6 B5.out.size).alloc (two_belowK B5.out hb6 B5.out.size).size (.cells #[.int .i64 pk, .int .i64 po] 36))
  have R3 := Lib.hid ((R3.out.past hb6).allocS (.cells #[.int .i64 pk, .int .i64 po] 36))
  clear hb6 PP B5 R1 R2 R4
  go_upto_region 10 with fail
  generalize w6.heap.size = b6 at *
  generalize w6.alloc (.cells #[.int .i64 pk, .int .i64 po] 36) = w7 at *
  clear w6
  obtain ⟨q, qk, qo, hpn, hcn⟩ := PN.out w7 A3 c3 R3.out hc3.out hm3.out
  have PP := Lib.hid hpn
  have HCN := Lib.hid hcn
  have T6 := Lib.hid t6
  clear hpn hcn PN t6
  go_wp2_with fail
  go_must (go_fit PP.out)
  rintro e w8 ⟨A5, c5, rfl, o5, hb8⟩
  have t8 := bk_old (o' := .cells #[.int .i64 qk, .int .i64 qo] 36) (stayK T6.out hb8)
  have t9 : (w8.alloc (.cells #[.int .i64 qk, .int .i64 qo] 36)).heap[w8.heap.size]? = _ := bk_new rfl
  have B8 := Lib.hid ((two_belowK B6.out hb8 B6.out.size).alloc (two_belowK B6.out hb8 B6.out.size).size (.cells #[.int .i64 qk, .int .i64 qo] 36))
  have R5 := Lib.hid (o5.rd.allocS (.cells #[.int .i64 qk, .int .i64 qo] 36))
  have RL := Lib.hid (HR.out.below B8.out)
  clear hb8 PP B6 R3 o5 T6
  go_upto_region 11 with fail
  generalize w8.heap.size = b8 at *
  generalize w8.alloc (.cells #[.int .i64 qk, .int .i64 qo] 36) = w9 at *
  clear w8
  obtain ⟨e0, e1⟩ := cells2 t8
  obtain ⟨f0, f1⟩ := cells2 t9
  clear t8 t9
  have BY := Lib.hid (Cur.bytes_any A5 A q.length c5 n c _ _ w9 R5.out RL.out)
  by_cases h1 : k1 = 0
  · obtain ⟨rfl, rfl, rfl⟩ := HCL.out h1
    subst h1
    by_cases h2 : k2 = 0
    · obtain ⟨rfl, rfl, rfl⟩ := HCN.out h2
      subst h2
      rw [Cur.eqB_self] at BY
      go_wp2_with fail
      go_must (go_fit BY.out)
      rintro e w10 ⟨rfl, rfl⟩
      go_wp2
      go_ret
      exact ⟨by first | rfl | exact ret_bool (by simp), B8.out⟩
    · go_wp2
      go_ret
      exact ⟨by first | rfl | exact ret_bool (by simp [*]), B8.out⟩
  · by_cases h2 : k2 = 0
    · obtain ⟨rfl, rfl, rfl⟩ := HCN.out h2
      subst h2
      rw [Cur.eqB_self] at BY
      go_wp2_with fail
      go_must (go_fit BY.out)
      rintro e w10 ⟨rfl, rfl⟩
      go_wp2
      go_ret
      exact ⟨by first | rfl | exact ret_bool (by simp [*]), B8.out⟩
    · go_wp2
      go_ret
      exact ⟨by first | rfl | exact ret_bool (by simp [*]), B8.out⟩
end Go.Proofs.Ytnpmgofkfdpbjaa
