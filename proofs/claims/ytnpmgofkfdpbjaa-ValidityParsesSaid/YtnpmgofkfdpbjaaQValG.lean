/- Walks: validity.MarshalPair's closure. -/
import Derived.Test.YtnpmgofkfdpbjaaKW
import Derived.Test.YtnpmgofkfdpbjaaKR
import Derived.Test.YtnpmgofkfdpbjaaKX
set_option linter.unusedSimpArgs false
set_option linter.unusedVariables false
namespace Go.Proofs.Ytnpmgofkfdpbjaa.Val
open Go.RowKit Kit Tlv Bas Tree

/-- what the closure of MarshalPair leaves: one more part -/
def PutP (w : World) (b6 base m : Nat) (xs : List Value) (own : Option Nat) (L : List UInt8) (cd : Int) (e : Ending) (w' : World) : Prop :=
  e = .returned (.int .i64 cd) ∧ ∃ P' cc' A1 c1, w'.heap[b6]? = some (.cells #[.slice P' (m + 1) cc'] 108 (0, 0)) ∧ w'.ownsRow base 29 1 (.slice P' (m + 1) cc') (m + 1) (xs ++ [.slice A1 L.length c1]) ∧
    RdP w' (fun b => w.heap.size ≤ b ∧ b < w'.heap.size ∧ (Value.slice P' (m + 1) cc').ownBlock ≠ some b) A1 L.length L ∧
    Keeps (fun b => b ≠ b6 ∧ b < w.heap.size ∧ own ≠ some b) w w' ∧ ((Value.slice P' (m + 1) cc').ownBlock = own ∨ ∃ j, (Value.slice P' (m + 1) cc').ownBlock = some j ∧ w.heap.size ≤ j) ∧ Below b6 w w'

set_option maxRecDepth 100000 in
set_option maxHeartbeats 2000000 in
theorem put_any {P : Option Addr} {m cc b6 base : Nat} {xs : List Value} (y mo d h mi s : Int) (w : World) (h6 : w.heap[b6]? = some (.cells #[.slice P m cc] 108 (0, 0)))
    (ho : w.ownsRow base 29 1 (.slice P m cc) m xs) (hb : base ≤ w.heap.size) (hm : m ≤ 10) (hne : b6 < base) :
    Calls Try.prog 115 #[Clk.time y mo d h mi s, .pointer (some ⟨b6, 0, none⟩)] w (PutP w b6 base m xs (Value.slice P m cc).ownBlock (valL y mo d h mi s) (valC y mo d h mi s)) := by
  have M := Lib.hid (fun w => marshalV_any y mo d h mi s w)
  generalize valL y mo d h mi s = L at *
  generalize valC y mo d h mi s = cd at *
  have tb : (w.alloc (.cells #[.int .i64 y, .int .i64 mo, .int .i64 d, .int .i64 h, .int .i64 mi, .int .i64 s] 28)).heap[w.heap.size]? = _ := bk_new rfl
  obtain ⟨q0, q1, q2, q3, q4, q5⟩ := Clk.TimeB.cells tb
  go_enter Try.func115, Try.ntmps115
  go_wp2_with fail
  go_must (go_fit (M.out _))
  rintro e w1 ⟨A1, c1, rfl, o1, hb1⟩
  clear q0 q1 q2 q3 q4 q5 tb
  have h61 := stayK (bk_old h6) hb1
  have ho1 := owns_below (ho.alloc (.cells #[.int .i64 y, .int .i64 mo, .int .i64 d, .int .i64 h, .int .i64 mi, .int .i64 s] 28)) hb1 (Nat.le_refl _)
  have z1 := hb1.size
  simp only [World.size_alloc] at z1
  have hz : base ≤ w1.heap.size := by omega
  have k6 := cell_of_one h61
  have f6 := free_of_one h61
  have H61 := Lib.hid h61
  have RP := Lib.hid (RdP.own o1)
  have KA : Keeps (fun b => b < w.heap.size) w w1 := Keeps.trans (Keeps.alloc w (.cells #[.int .i64 y, .int .i64 mo, .int .i64 d, .int .i64 h, .int .i64 mi, .int .i64 s] 28) (fun b h => h)) (Keeps.below hb1 (fun b h => by simp; omega))
  have BB := Lib.hid ((bel1 hb1).mono (show b6 ≤ w.heap.size by omega))
  have OLD := Lib.hid (fun k hk => World.ownsRow.lt ho k hk)
  have HO1 := Lib.hid ho1
  clear h61 o1 hb1 ho1 M
  go_upto_region 3 with (first | (at_builtin; go_must (refine appS rfl (.tmp 11) (.tmp 13) 108 1 24 _ rfl Try.underlying108 infoSl rfl (by decide) (by decide) rfl HO1.out rfl (one_slice _ _ _) rfl rfl (by omega) hz ?_; intro A4 c4 w4 o4 hg4 hb4 hs4; clear k6 f6; have h64 := far_own (b := b6) HO1.out hg4 (bk_old H61.out) (.inl hne); have H64 := Lib.hid h64; have k6 := cell_of_one h64; have f6 := free_of_one h64; clear h64)))
  clear k6 f6
  have z4 := hg4.size
  simp only [World.size_alloc] at z4
  have h65 : (w4.setCell ⟨b6, 0, none⟩ (.slice A4 (m + 1) c4)).heap[b6]? = some (.cells #[.slice A4 (m + 1) c4] 108 (0, 0)) := heap_setCell_same _ b6 0 _ _ _ H64.out
  have o5 := ownsRow_setCell_below (a := ⟨b6, 0, none⟩) o4 (by simp only []; omega) (.slice A4 (m + 1) c4)
  have hz5 : (w4.setCell ⟨b6, 0, none⟩ (.slice A4 (m + 1) c4)).heap.size = w4.heap.size := by simp
  have KB : Keeps (fun b => b < w1.heap.size ∧ (Value.slice P m cc).ownBlock ≠ some b) w1 w4 := Keeps.trans (Keeps.alloc _ _ (fun b h => h.1)) (Keeps.grown hg4 (fun b h => h.2))
  have KC : Keeps (fun b => b ≠ b6) w4 (w4.setCell ⟨b6, 0, none⟩ (.slice A4 (m + 1) c4)) := (Keeps.refl w4 (fun b => b ≠ b6)).set (p := ⟨b6, 0, none⟩) (fun b hb => hb) _
  have FIN : PutP w b6 base m xs (Value.slice P m cc).ownBlock L cd (.returned (.int .i64 cd)) (w4.setCell ⟨b6, 0, none⟩ (.slice A4 (m + 1) c4)) := by
    refine ⟨rfl, A4, c4, A1, c1, h65, o5, ?_, ?_, ?_, ?_⟩
    · refine ((RP.out.keep ((KB.imp (fun b h => ⟨h.2, fun e => ?_⟩)).trans (KC.imp (fun b h => by have := h.1; simp at this; omega)))).mono (fun b h => ⟨by have := h.1; simp at this; omega, by have := h.2; omega, ?_⟩))
      · have := (OLD.out b e).2; have := h.1; simp at this; omega
      · rcases hs4 with e | e <;> rw [e]
        · intro e2; have := (OLD.out b e2).2; have := h.1; simp at this; omega
        · intro e2; injection e2 with e2; have := h.2; omega
    · exact ((KA.imp (fun b h => h.2.1)).trans (KB.imp (fun b h => ⟨by omega, h.2.2⟩))).trans (KC.imp (fun b h => h.1))
    · rcases hs4 with e | e
      · exact .inl e
      · exact .inr ⟨_, e, by omega⟩
    · exact ((BB.out.trans (hb4.mono (by omega))).setCell (by simp) _)
  have FF := Lib.hid FIN
  clear FIN KA KB KC o4 hg4 hb4 hs4 HO1 H61 H64 RP BB OLD h65 o5 hz5
  go_wp2
  go_ret
  exact FF.out
end Go.Proofs.Ytnpmgofkfdpbjaa.Val
