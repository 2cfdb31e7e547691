/- Walks: slices.Concat of two slices of bytes. -/
import Derived.Test.YtiogcdpmgomllaaConcat
set_option linter.unusedSimpArgs false
set_option linter.unusedVariables false
namespace Go.Proofs.Ytiogcdpmgomllaa.Cur
open Go.RowKit Kit
theorem cells2c {w : World} {b : Nat} {x0 x1 : Value} {t : TypeId} (h : w.heap[b]? = some (.cells #[x0, x1] t (0, 0))) :
    w.cell? ⟨b, 0, none⟩ = some x0 ∧ w.cell? ⟨b, 1, none⟩ = some x1 := by
  refine ⟨?_, ?_⟩ <;> (rw [cell_of_row w b _ _ _ _ h]; rfl)

set_option maxHeartbeats 2000000 in
theorem concat2_any {A0 A1 : Option Addr} {n0 n1 c0 c1 g B cc : Nat} {l0 l1 : List UInt8} {t : TypeId} (w : World) (hg : w.heap[g]? = some (.cells #[.slice A0 n0 c0, .slice A1 n1 c1] t (0, 0)))
    (h0 : Rd w B A0 n0 l0) (h1 : Rd w B A1 n1 l1) (hB : B ≤ w.heap.size) (hp : 0 < n0) (hm : n0 + n1 ≤ 140737488355328) :
    Calls Try.prog 27 #[.slice (some ⟨g, 0, none⟩) 2 cc] w fun e w' => ∃ A c, e = .returned (.slice A (n0 + n1) c) ∧ Own w' w.heap.size A (n0 + n1) c (l0 ++ l1) ∧ Below w.heap.size w w' := by
  have hgl := Blk_lt hg
  obtain ⟨q0, q1⟩ := cells2c hg
  have HG := Lib.hid hg
  have H0 := Lib.hid h0
  have H1 := Lib.hid h1
  have GR := Lib.hid (fun w => grow_any (n0 + n1) w (by omega) hm)
  rw [show ((n0 + n1 : Nat) : Int) = (n0 : Int) + (n1 : Int) from by omega] at GR
  clear hg h0 h1
  go_enter Try.func27, Try.ntmps27
  go_wp2
  go_loop [3, 11] (fun s i => (i = .int .i64 0 ∧ s = .int .i64 0) ∨ (i = .int .i64 1 ∧ s = .int .i64 (n0 : Int)) ∨ (i = .int .i64 2 ∧ s = .int .i64 ((n0 : Int) + (n1 : Int)))) (fun _ i => 2 - (intOf i).toNat)
  case atStart => exact .inl ⟨rfl, rfl⟩
  case round =>
    rcases hrel with ⟨rfl, rfl⟩ | ⟨rfl, rfl⟩ | ⟨rfl, rfl⟩
    · go_wp2
      go_round
      case rel => exact .inr (.inl ⟨rfl, rfl⟩)
      case measure => simp [intOf]
    · go_wp2
      go_round
      case rel => exact .inr (.inr ⟨rfl, rfl⟩)
      case measure => simp [intOf]
    · clear q0 q1
      go_wp2_with (go_at_call 31; refine (GR.out _).mono ?_; rintro e w1 ⟨A, c, rfl, ho, hb⟩)
      go_loopw [6, 27] (fun o i wr => ∃ (k m : Nat) (A : Option Addr) (c : Nat) (l : List UInt8), i = .int .i64 (k : Int) ∧ o = .slice A m c ∧ Own wr w.heap.size A m c l ∧ Below w.heap.size w wr ∧
        Hid ((k = 0 ∧ m = 0 ∧ l = []) ∨ (k = 1 ∧ m = n0 ∧ l = l0) ∨ (k = 2 ∧ m = n0 + n1 ∧ l = l0 ++ l1))) (fun _ i _ => 2 - (intOf i).toNat)
      case atStart => exact ⟨0, 0, A, c, [], rfl, rfl, ho, hb, Lib.hid (.inl ⟨rfl, rfl, rfl⟩)⟩
      case round =>
        clear ho hb GR
        obtain ⟨k, m, A, c, l, rfl, rfl, ho, hb, hk⟩ := hrel
        obtain ⟨q0, q1⟩ := cells2c ((hb.block g hgl).trans HG.out)
        have zb := hb.size
        rcases hk.out with ⟨rfl, rfl, rfl⟩ | ⟨rfl, rfl, rfl⟩ | ⟨rfl, rfl, rfl⟩
        · go_wp2_with (first | (at_builtin; refine app rfl (.tmp 31) (.tmp 32) rfl rfl ho rfl (H0.out.below (hb.mono hB)) (by omega) hb.size ?_; intro A' c' w' ho' hg' hb' hs'))
          go_roundw
          case rel => exact ⟨1, n0, A', c', l0, rfl, rfl, (by simpa only [Nat.zero_add, List.nil_append] using ho'), hb.trans hb', Lib.hid (.inr (.inl ⟨rfl, rfl, rfl⟩))⟩
          case measure => simp [intOf]
        · go_wp2_with (first | (at_builtin; refine app rfl (.tmp 31) (.tmp 32) rfl rfl ho rfl (H1.out.below (hb.mono hB)) (by omega) hb.size ?_; intro A' c' w' ho' hg' hb' hs'))
          go_roundw
          case rel => exact ⟨2, _, A', c', _, rfl, rfl, ho', hb.trans hb', Lib.hid (.inr (.inr ⟨rfl, rfl, rfl⟩))⟩
          case measure => simp [intOf]
        · go_wp2
          go_ret
          exact ⟨A, c, rfl, ho, hb⟩
end Go.Proofs.Ytiogcdpmgomllaa.Cur
