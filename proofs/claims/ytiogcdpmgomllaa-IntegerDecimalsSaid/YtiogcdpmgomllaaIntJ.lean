/- The walk of integer.negated. -/
import Derived.Test.YtiogcdpmgomllaaIntE
import Derived.Test.YtiogcdpmgomllaaSeg
set_option linter.unusedSimpArgs false
set_option linter.unusedVariables false
namespace Go.Proofs.Ytiogcdpmgomllaa.Int4
open Go.RowKit Kit Tlv

/-- the opposite's digits from place j on, and what is carried -/
def NegR (l m : List UInt8) (j : Nat) (cy : Int) : Prop := m.length = l.length ∧ beI (m.drop j) + cy * pw (l.length - j) = pw (l.length - j) - beI (l.drop j) ∧ 0 ≤ cy ∧ cy ≤ 1
theorem NegR.start {l m : List UInt8} (h : m.length = l.length) : NegR l m l.length 1 := by
  refine ⟨h, ?_, by omega, by omega⟩
  rw [List.drop_of_length_le (by omega), List.drop_of_length_le (Nat.le_refl _), Nat.sub_self, pw_zero, beI_nil]; rfl
theorem drop_beI {l : List UInt8} {j : Nat} (h : j < l.length) : beI (l.drop j) = bt l j * pw (l.length - (j + 1)) + beI (l.drop (j + 1)) := by
  rw [List.drop_eq_getElem_cons h, beI_cons, List.length_drop, bt_eq h]
theorem NegR.step {l m : List UInt8} {j : Nat} {cy : Int} (h : NegR l m (j + 1) cy) (hj : j < l.length) : NegR l (m.set j (ofI ((255 - bt l j + cy) % 256))) j ((255 - bt l j + cy) / 256) := by
  obtain ⟨h1, h2, h3, h4⟩ := h
  have b0 := bt_lo l j
  have b1 := bt_hi l j
  refine ⟨by simp [h1], ?_, by omega, by omega⟩
  have e1 : beI ((m.set j (ofI ((255 - bt l j + cy) % 256))).drop j) = (255 - bt l j + cy) % 256 * pw (l.length - (j + 1)) + beI (m.drop (j + 1)) := by
    rw [drop_beI (by simp; omega), List.drop_set_of_lt (by omega), bt_set (by omega) (by omega) (by omega), if_pos rfl, List.length_set, h1]
  rw [e1, drop_beI hj, show l.length - j = (l.length - (j + 1)) + 1 from by omega, pw_succ]
  generalize pw (l.length - (j + 1)) = P at *
  generalize beI (m.drop (j + 1)) = M at *
  generalize beI (l.drop (j + 1)) = L at *
  generalize hx : 255 - bt l j + cy = x at *
  have hq : x / 256 = 0 ∨ x / 256 = 1 := by omega
  have hm : x % 256 = x - x / 256 * 256 := by omega
  have hb : bt l j = 255 + cy - x := by omega
  rw [hm, hb]
  have hc : cy = 0 ∨ cy = 1 := by omega
  rcases hq with hq | hq <;> rcases hc with hc | hc <;> rw [hq, hc] <;> rw [hc] at h2 <;> simp only [Int.sub_mul, Int.add_mul] <;> omega
theorem NegR.stop {l m : List UInt8} {cy : Int} (h : NegR l m 0 cy) : m.length = l.length ∧ beI m + cy * pw l.length = pw l.length - beI l ∧ 0 ≤ cy ∧ cy ≤ 1 := by
  obtain ⟨h1, h2, h3⟩ := h
  rw [List.drop_zero, List.drop_zero, Nat.sub_zero] at h2
  exact ⟨h1, h2, h3⟩
theorem xor_all {b : Int} (h0 : 0 ≤ b) (h1 : b ≤ 255) : bits BinOp.xor IntKind.u8 (if IntKind.u8.signed = true then -1 else IntKind.u8.max) b = 255 - b := by
  have : ∀ a : Fin 256, bits BinOp.xor IntKind.u8 (if IntKind.u8.signed = true then -1 else IntKind.u8.max) ((a.1 : Nat) : Int) = 255 - ((a.1 : Nat) : Int) := by decide +kernel
  obtain ⟨a, rfl⟩ := Int.eq_ofNat_of_zero_le h0
  exact this ⟨a, by omega⟩
/-- what negated returns -/
def NegP (w : World) (n : Nat) (l : List UInt8) (e : Ending) (w' : World) : Prop :=
  ∃ g c m cy, e = .returned (.slice (some ⟨g, 0, none⟩) n c) ∧ Own w' w.heap.size (some ⟨g, 0, none⟩) n c m ∧ m.length = l.length ∧ beI m + cy * pw l.length = pw l.length - beI l ∧ 0 ≤ cy ∧ cy ≤ 1 ∧ Below w.heap.size w w'

set_option maxHeartbeats 2000000 in
theorem negated_any {A : Option Addr} {n c B : Nat} {l : List UInt8} (w : World) (hr : Rd w B A n l) (hB : B ≤ w.heap.size) (hn : n ≤ 140737488355000) (hp : 1 ≤ n) :
    Calls Try.prog 17 #[.slice A n c] w (NegP w n l) := by
  obtain ⟨w1, hmk, ho, hb1⟩ := make_full w n (by omega)
  have hl := hr.len
  obtain ⟨ad, rfl, hbk, hcell⟩ := hr.all_ (by omega)
  have hb' : ad.block < w.heap.size := by omega
  have CE := Lib.hid (fun k (hk : k < n) => show w1.cell? (ad.add k) = some (.int .u8 (bt l k)) from by rw [hb1.cell (by rw [block_add]; exact hb')]; exact hcell k hk)
  have z1 : w.heap.size < w1.heap.size := ho.lt.2
  have R0 := Lib.hid (show NegR l (List.replicate n 0) n 1 from by have := NegR.start (l := l) (m := List.replicate n 0) (by simp [hl]); rwa [hl] at this)
  have ST := Lib.hid (fun j m cy (h : NegR l m (j + 1) cy) (hj : j < n) => NegR.step h (by omega))
  have EN := Lib.hid (fun m cy (h : NegR l m 0 cy) => NegR.stop h)
  have YB := Lib.hid (fun k => And.intro (bt_lo l k) (bt_hi l k))
  clear hr hl hcell
  go_enter Try.func17, Try.ntmps17
  go_wp2
  clear hmk
  go_loopw [4, 5, 6] (fun cy i x wr => ∃ (j : Nat) (m : List UInt8) (y : Int), j ≤ n ∧ i = .int .i64 ((j : Int) - 1) ∧ cy = .int .i64 y ∧ Own wr w.heap.size (some ⟨w.heap.size, 0, none⟩) n n m ∧ w1.grownBy wr (some w.heap.size) ∧ Hid (NegR l m j y))
    (fun _ i _ _ => (intOf i + 1).toNat)
  case atStart => exact ⟨n, _, 1, Nat.le_refl _, rfl, rfl, ho, World.grownBy.refl _ _, R0⟩
  case round =>
    obtain ⟨j, m, y, hj, rfl, rfl, ho', hg, hN⟩ := hrel
    by_cases h0 : 1 ≤ j
    · obtain ⟨i, rfl⟩ : ∃ i, j = i + 1 := ⟨j - 1, by omega⟩
      have hx := Lib.hid (ST.out _ _ _ hN.out (by omega))
      obtain ⟨_, _, y0, y1⟩ := hN.out
      obtain ⟨b0, b1⟩ := YB.out i
      have ck : wr.cell? (ad.add i) = some (.int .u8 (bt l i)) := (World.cell?_of_block (hg.block _ (by rw [block_add]; omega) (fun e => by rw [block_add] at e; injection e with e; omega))).trans (CE.out i (by omega))
      have ff := ho'.frozenAt i
      have cc := ho'.cellAt (k := i) (by omega)
      have hni : (i : Int) < (n : Int) := by omega
      have e1 : ((i + 1 : Nat) : Int) - 1 = (i : Int) := by omega
      have hs := Lib.hid (fun x h0 h1 => ho'.stored i (x := x) h0 h1)
      have hgs := Lib.hid (fun u => grown_set hg i u)
      rw [e1]
      generalize bt l i = b at *
      have hxo := xor_all b0 b1
      clear hN
      go_wp2
      go_roundw
      case rel => exact ⟨i, _, _, by omega, rfl, rfl, hs.out _ (by omega) (by omega), hgs.out _, hx⟩
      case measure => simp [intOf]
    · obtain rfl : j = 0 := by omega
      have E := EN.out _ _ hN.out
      have E' := Lib.hid E
      have bel := hb1.grown hg (by omega) (fun k hk => by injection hk with hk; omega)
      clear E hN
      go_wp2
      go_ret
      exact ⟨_, _, m, y, rfl, ho', E'.out.1, E'.out.2.1, E'.out.2.2.1, E'.out.2.2.2, bel⟩
end Go.Proofs.Ytiogcdpmgomllaa.Int4
