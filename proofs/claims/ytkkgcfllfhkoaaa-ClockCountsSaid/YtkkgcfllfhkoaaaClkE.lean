/- Walks: the clock's decode: the closure that reads two digits. -/
import Derived.Test.YtkkgcfllfhkoaaaPlClkC
import Derived.Test.YtkkgcfllfhkoaaaClkA
import Derived.Test.YtkkgcfllfhkoaaaErr
set_option linter.unusedSimpArgs false
set_option linter.unusedVariables false
namespace Go.Proofs.Ytkkgcfllfhkoaaa.Clk
open Go.RowKit Kit

set_option maxHeartbeats 1000000 in
theorem next_any {A : Option Addr} {n c p ba bc B : Nat} {l : List UInt8} (w : World) (hr : Rd w B A n l) (hba : w.heap[ba]? = some (.cells #[.int .i64 (p : Int)] 3 (0, 0))) (hbc : w.heap[bc]? = some (.cells #[.slice A n c] 28 (0, 0)))
    (hne : ba ≠ bc) (hA : ∀ ad, A = some ad → ad.block ≠ ba) (hp : p + 1 < n) (hn : n ≤ 1000) (h0 : 48 ≤ bt l p ∧ bt l p ≤ 57) (h1 : 48 ≤ bt l (p + 1) ∧ bt l (p + 1) ≤ 57) :
    Calls Try.prog 67 #[.pointer (some ⟨ba, 0, none⟩), .pointer (some ⟨bc, 0, none⟩)] w fun e w' => e = .returned (.int .i64 (pr l p)) ∧ ∃ k, w' = (w.setCell ⟨ba, 0, none⟩ (.int .i64 ((p + 2 : Nat) : Int))).drewN k := by
  have ca := cell_of_one hba
  have fa := free_of_one hba
  have cc := cell_of_one hbc
  obtain ⟨ad, rfl, _, c0⟩ := hr.at_ (k := p) (by omega)
  obtain ⟨ad', e', _, c1⟩ := hr.at_ (k := p + 1) hp
  injection e' with e'
  subst e'
  have hnb := hA ad rfl
  have b0 : (ad.add p).block ≠ ba := by rw [block_add]; exact hnb
  have b1 : (ad.add (p + 1)).block ≠ ba := by rw [block_add]; exact hnb
  have d0 : (w.setCell ⟨ba, 0, none⟩ (.int .i64 ((p : Int) + 2))).cell? (ad.add p) = some (.int .u8 (bt l p)) := by
    rw [World.cell?_setCell_other w _ _ _ (fun e => b0 (by rw [← e]))]; exact c0
  have d1 : (w.setCell ⟨ba, 0, none⟩ (.int .i64 ((p : Int) + 2))).cell? (ad.add (p + 1)) = some (.int .u8 (bt l (p + 1))) := by
    rw [World.cell?_setCell_other w _ _ _ (fun e => b1 (by rw [← e]))]; exact c1
  have ea : ad.add (p + 1) = ⟨ad.block, ad.off + (p + 1), none⟩ := by simp [Addr.add]
  rw [ea] at d1
  clear ea
  obtain ⟨h00, h01⟩ := h0
  obtain ⟨h10, h11⟩ := h1
  have hi0 : ((p : Int) + 2 - 2) = (p : Int) := by omega
  have hi1 : ((p : Int) + 2 - 1) = (p : Int) + 1 := by omega
  have hj1 : ((p : Int) + 1).toNat = p + 1 := by omega
  have hl0 : (0 : Int) ≤ (p : Int) + 1 := by omega
  have hl1 : (p : Int) + 1 < (n : Int) := by omega
  have hl2 : (p : Int) < (n : Int) := by omega
  have w0 : IntKind.i64.wrap (p : Int) = (p : Int) := IntWalk.i64_in _ (by omega)
  have w1 : IntKind.i64.wrap ((p : Int) + 1) = (p : Int) + 1 := IntWalk.i64_in _ (by omega)
  have w2 : IntKind.u8.wrap (bt l p - 48) = bt l p - 48 := IntWalk.u8_in _ (by omega)
  have w3 : IntKind.u8.wrap (bt l (p + 1) - 48) = bt l (p + 1) - 48 := IntWalk.u8_in _ (by omega)
  have w4 : IntKind.i64.wrap (bt l p - 48) = bt l p - 48 := IntWalk.i64_in _ (by omega)
  have w5 : IntKind.i64.wrap (bt l (p + 1) - 48) = bt l (p + 1) - 48 := IntWalk.i64_in _ (by omega)
  have w6 : IntKind.i64.wrap ((bt l p - 48) * 10) = (bt l p - 48) * 10 := IntWalk.i64_in _ (by omega)
  have w7 : IntKind.i64.wrap ((bt l p - 48) * 10 + (bt l (p + 1) - 48)) = (bt l p - 48) * 10 + (bt l (p + 1) - 48) := IntWalk.i64_in _ (by omega)
  go_enter Try.func67, Try.ntmps67
  go_wp2
  go_quiet (fail)
  go_wp2
  go_ret
  exact ⟨rfl, _, by rw [show (((p + 2 : Nat)) : Int) = (p : Int) + 2 from by omega]⟩
end Go.Proofs.Ytkkgcfllfhkoaaa.Clk
