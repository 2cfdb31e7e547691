/- Walks: validity.MarshalPair. -/
import Derived.Deep.DeepCutAuto
import Derived.Deep.RegionWith
import Derived.Test.YtnpmgofkfdpbjaaQValG
set_option linter.unusedSimpArgs false
set_option linter.unusedVariables false
namespace Go.Proofs.Ytnpmgofkfdpbjaa.Val
open Go.RowKit Kit Tlv Bas Tree

/-- what lies behind the two parts of MarshalPair -/
def TwoP (w : World) (b6 : Nat) (cd : Int) (L1 L2 : List UInt8) (s8 : Value) (wx : World) : Prop :=
  s8 = .int .i64 cd ∧ ∃ P cc A1 c1 A2 c2, wx.heap[b6]? = some (.cells #[.slice P 2 cc] 108 (0, 0)) ∧ wx.ownsRow (b6 + 1) 29 1 (.slice P 2 cc) 2 [.slice A1 L1.length c1, .slice A2 L2.length c2] ∧
    Rd wx wx.heap.size A1 L1.length L1 ∧ Rd wx wx.heap.size A2 L2.length L2 ∧ Below w.heap.size w wx
theorem two_put {w w0 w1 w2 : World} {b6 : Nat} {cd cd1 cd2 : Int} {L1 L2 : List UInt8} {e : Ending} (hw : w.heap.size ≤ b6) (h0 : b6 < w0.heap.size) (hB : Below w.heap.size w w0) {P1 : Option Addr} {cc1 : Nat} {A1 : Option Addr} {c1 : Nat}
    (r1 : RdP w1 (fun b => w0.heap.size ≤ b ∧ b < w1.heap.size ∧ (Value.slice P1 (0 + 1) cc1).ownBlock ≠ some b) A1 L1.length L1) (hb1 : Below b6 w0 w1)
    (h2 : PutP w1 b6 (b6 + 1) (0 + 1) ([] ++ [.slice A1 L1.length c1]) (Value.slice P1 (0 + 1) cc1).ownBlock L2 cd2 e w2) : TwoP w b6 cd L1 L2 (.int .i64 cd) w2 := by
  obtain ⟨-, P2, cc2, A2, c2, k1, k2, k3, k4, k5, k6⟩ := h2
  have z1 := hb1.size
  have z2 := k6.size
  refine ⟨rfl, P2, cc2, A1, c1, A2, c2, k1, k2, ?_, k3.rd (fun b h => h.2.1), (hB.trans (hb1.mono hw)).trans (k6.mono hw)⟩
  exact (r1.keep (k4.imp (fun b h => ⟨by omega, h.2.1, h.2.2⟩))).rd (fun b h => by omega)

set_option maxRecDepth 100000 in
set_option maxHeartbeats 4000000 in
theorem marpair_raw (y m d h mi s y' m' d' h' mi' s' : Int) (w : World) {cd : Int} {u : List UInt8} (hmax : max (valC y m d h mi s) (valC y' m' d' h' mi' s') = cd)
    (hu : cd = 0 → u = encL 0 true 16 (valL y m d h mi s ++ valL y' m' d' h' mi' s')) (hn : ¬ cd = 0 → u = []) (hc1 : valC y m d h mi s = 0 ∨ valC y m d h mi s = 8) (hc2 : valC y' m' d' h' mi' s' = 0 ∨ valC y' m' d' h' mi' s' = 8) :
    Calls Try.prog 54 #[Clk.time y m d h mi s, Clk.time y' m' d' h' mi' s'] w (Ent.MarP w u cd) := by
  have PA := Lib.hid (fun (X : World) {P : Option Addr} {mm cc b6 base : Nat} {xs : List Value} h6 ho hb hm hne => put_any (P := P) (m := mm) (cc := cc) (b6 := b6) (base := base) (xs := xs) y m d h mi s X h6 ho hb hm hne)
  have PB := Lib.hid (fun (X : World) {P : Option Addr} {mm cc b6 base : Nat} {xs : List Value} h6 ho hb hm hne => put_any (P := P) (m := mm) (cc := cc) (b6 := b6) (base := base) (xs := xs) y' m' d' h' mi' s' X h6 ho hb hm hne)
  have ln1 := val_len (y := y) (m := m) (d := d) (h := h) (mi := mi) (s := s)
  have ln2 := val_len (y := y') (m := m') (d := d') (h := h') (mi := mi') (s := s')
  generalize valL y m d h mi s = L1 at *
  generalize valL y' m' d' h' mi' s' = L2 at *
  generalize valC y m d h mi s = cd1 at *
  generalize valC y' m' d' h' mi' s' = cd2 at *
  have HU := Lib.hid hu
  have HN := Lib.hid hn
  have HM := Lib.hid hmax
  clear hu hn hmax
  go_enter Try.func54, Try.ntmps54
  go_upto_region 3 with fail
  have t2 : (((w.alloc (.cells #[.int .i64 y, .int .i64 m, .int .i64 d, .int .i64 h, .int .i64 mi, .int .i64 s] 28)).alloc (.cells #[.int .i64 y', .int .i64 m', .int .i64 d', .int .i64 h', .int .i64 mi', .int .i64 s'] 28)).alloc (.cells #[.slice none 0 0] 108)).heap[w.heap.size]? = _ := bk_old (bk_old (bk_new rfl))
  have t3 : (((w.alloc (.cells #[.int .i64 y, .int .i64 m, .int .i64 d, .int .i64 h, .int .i64 mi, .int .i64 s] 28)).alloc (.cells #[.int .i64 y', .int .i64 m', .int .i64 d', .int .i64 h', .int .i64 mi', .int .i64 s'] 28)).alloc (.cells #[.slice none 0 0] 108)).heap[w.heap.size + 1]? = _ := bk_old (bk_new (by simp))
  have t6 : (((w.alloc (.cells #[.int .i64 y, .int .i64 m, .int .i64 d, .int .i64 h, .int .i64 mi, .int .i64 s] 28)).alloc (.cells #[.int .i64 y', .int .i64 m', .int .i64 d', .int .i64 h', .int .i64 mi', .int .i64 s'] 28)).alloc (.cells #[.slice none 0 0] 108)).heap[w.heap.size + 1 + 1]? = _ := bk_new (by simp)
  have bel : Below w.heap.size w (((w.alloc (.cells #[.int .i64 y, .int .i64 m, .int .i64 d, .int .i64 h, .int .i64 mi, .int .i64 s] 28)).alloc (.cells #[.int .i64 y', .int .i64 m', .int .i64 d', .int .i64 h', .int .i64 mi', .int .i64 s'] 28)).alloc (.cells #[.slice none 0 0] 108)) := (by repeat' (first | (with_reducible exact Below.refl _ _) | (with_reducible assumption) | (with_reducible refine below_drewN ?_ _) | (with_reducible refine Below.drew ?_) | (with_reducible refine Below.alloc ?_ ?_ _) | (with_reducible refine Below.setCell ?_ ?_ _) | go_size))
  have hz : (((w.alloc (.cells #[.int .i64 y, .int .i64 m, .int .i64 d, .int .i64 h, .int .i64 mi, .int .i64 s] 28)).alloc (.cells #[.int .i64 y', .int .i64 m', .int .i64 d', .int .i64 h', .int .i64 mi', .int .i64 s'] 28)).alloc (.cells #[.slice none 0 0] 108)).heap.size = w.heap.size + 3 := by simp
  generalize (((w.alloc (.cells #[.int .i64 y, .int .i64 m, .int .i64 d, .int .i64 h, .int .i64 mi, .int .i64 s] 28)).alloc (.cells #[.int .i64 y', .int .i64 m', .int .i64 d', .int .i64 h', .int .i64 mi', .int .i64 s'] 28)).alloc (.cells #[.slice none 0 0] 108)) = w0 at *
  have T2 := Lib.hid t2
  have T3 := Lib.hid t3
  have T6 := Lib.hid t6
  have BE := Lib.hid bel
  have HZ := Lib.hid hz
  obtain ⟨q0, q1, q2, q3, q4, q5⟩ := cells6 t2
  obtain ⟨u0, u1, u2, u3, u4, u5⟩ := cells6 t3
  clear t2 t3 t6 bel hz
  have HS := Lib.hid (show w.heap.size + 1 + 1 + 1 ≤ w0.drew.heap.size from by have := HZ.out; show _ ≤ w0.heap.size; omega)
  have P1 := Lib.hid (PA.out w0.drew (P := none) (mm := 0) (cc := 0) (b6 := w.heap.size + 1 + 1) (base := w.heap.size + 1 + 1 + 1) (xs := []) T6.out (World.ownsRow_nil _ _ _ _) HS.out (Nat.zero_le _) (Nat.lt_succ_self _))
  have T3L := Lib.hid (show w.heap.size + 1 < w.heap.size + 1 + 1 from Nat.lt_succ_self _)
  have W1 := Lib.hid (show w.heap.size ≤ w.heap.size + 1 + 1 from by omega)
  have h110 : 0 + 1 ≤ 10 := by omega
  go_cut [8] (fun s8 wx => TwoP w (w.heap.size + 1 + 1) cd L1 L2 s8 wx)
  case first =>
    rcases hc1 with rfl | rfl <;> rcases hc2 with rfl | rfl
    all_goals
      have hcd := HM.out
      subst hcd
      go_region_with (first
        | (go_at_call 115; refine (P1.out).mono ?_; rintro e w1 ⟨rfl, P1', cc1, A1, c1, k1, k2, k3, k4, k5, k6⟩; have P2 := Lib.hid (PB.out w1 k1 k2 (Nat.le_trans HS.out k6.size) h110 (Nat.lt_succ_self _)); have K3 := Lib.hid k3; have K6 := Lib.hid k6; clear q0 q1 q2 q3 q4 q5 u0 u1 u2 u3 u4 u5; obtain ⟨u0, u1, u2, u3, u4, u5⟩ := cells6 ((k6.block _ T3L.out).trans T3.out); clear k1 k2 k3 k4 k5 k6 P1)
        | (go_at_call 115; refine (P2.out).mono ?_; rintro e w2 h2; have R := fun cd : Int => two_put (cd := cd) (cd1 := 0) W1.out HS.out BE.out.drew K3.out K6.out h2; obtain ⟨rfl, -⟩ := h2; clear P2 u0 u1 u2 u3 u4 u5))
    all_goals
      go_wp2_with fail
      go_meet
      exact R _
  case rest =>
    obtain ⟨rfl, P, cc, A1, c1, A2, c2, k1, k2, k3, k4, k5⟩ := hcut
    clear q0 q1 q2 q3 q4 q5 u0 u1 u2 u3 u4 u5 T2 T3 T6 BE HZ HS P1 T3L W1 PA PB HM
    have f1 := cell_of_one k1
    by_cases hcd : cd = 0
    · subst hcd
      have U := Lib.hid (HU.out (by first | rfl | trivial))
      have SQ := Lib.hid (seq_any wc (cat2 wc k2 k3 k4 (by omega) (by omega)) (by omega) (by rw [List.length_append]; omega))
      have K5 := Lib.hid k5
      clear k1 k2 k3 k4 k5 HU HN
      go_wp2_with fail
      go_must (go_fit SQ.out)
      rintro e w2 ⟨A5, c5, rfl, o5, hb5⟩
      go_wp2
      go_ret2
      rw [U.out]
      exact ⟨A5, c5, rfl, o5.mono K5.out.size, two_belowK K5.out hb5 K5.out.size⟩
    · have U := Lib.hid (HN.out hcd)
      have K5 := Lib.hid k5
      clear k1 k2 k3 k4 k5 HU HN
      go_wp2
      go_ret2
      rw [U.out]
      exact ⟨none, 0, rfl, Own.none_ _ _, K5.out⟩

/-- the encoding of two times -/
def pairB (y m d h mi s y' m' d' h' mi' s' : Int) : Bool := valB y m d h mi s && valB y' m' d' h' mi' s'
def pairC (y m d h mi s y' m' d' h' mi' s' : Int) : Int := if pairB y m d h mi s y' m' d' h' mi' s' = true then 0 else 8
def pairL (y m d h mi s y' m' d' h' mi' s' : Int) : List UInt8 := if pairB y m d h mi s y' m' d' h' mi' s' = true then encL 0 true 16 (valL y m d h mi s ++ valL y' m' d' h' mi' s') else []
theorem marpair_any (y m d h mi s y' m' d' h' mi' s' : Int) (w : World) :
    Calls Try.prog 54 #[Clk.time y m d h mi s, Clk.time y' m' d' h' mi' s'] w (Ent.MarP w (pairL y m d h mi s y' m' d' h' mi' s') (pairC y m d h mi s y' m' d' h' mi' s')) := by
  have b1 : valC y m d h mi s = if valB y m d h mi s = true then 0 else 8 := rfl
  have b2 : valC y' m' d' h' mi' s' = if valB y' m' d' h' mi' s' = true then 0 else 8 := rfl
  refine marpair_raw y m d h mi s y' m' d' h' mi' s' w ?_ ?_ ?_ ?_ ?_
  · rw [b1, b2]; unfold pairC pairB
    cases valB y m d h mi s <;> cases valB y' m' d' h' mi' s' <;> rfl
  · unfold pairC pairL; intro hh; split at hh
    · rename_i g; rw [if_pos g]
    · omega
  · unfold pairC pairL; intro hh; split at hh
    · omega
    · rename_i g; rw [if_neg g]
  · rw [b1]; split <;> simp
  · rw [b2]; split <;> simp
end Go.Proofs.Ytnpmgofkfdpbjaa.Val
