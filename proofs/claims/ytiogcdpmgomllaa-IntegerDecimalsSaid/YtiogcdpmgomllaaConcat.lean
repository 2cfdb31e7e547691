/- Walks: slices.Grow of the nil slice, slices.Concat of three slices of bytes. -/
import Derived.Test.YtiogcdpmgomllaaCurE
import Derived.Lib.AppendZeros
set_option linter.unusedSimpArgs false
set_option linter.unusedVariables false
namespace Go.Proofs.Ytiogcdpmgomllaa.Cur
open Go.RowKit Kit

/-- append([]byte(nil), make([]byte, n)...) -/
theorem appZ {ops : Array Oper} {rest : List Oper} {o : Oper} {a : Act} {w : World} {Q : Exit → Act → World → Prop} (hgd : o.guard = none) (s x : Operand)
    (ho : o.op = .call { callee := .builtin .append, args := #[s, x], argTypes := #[22, 3] }) (hs : a.eval s = .slice none 0 0) {n : Nat} (hx : a.eval x = .int .i64 (n : Int))
    (h0 : 0 < n) (hn : n ≤ 140737488355328)
    (h : ∀ cap w', n ≤ cap → Own w' w.heap.size (some ⟨w.heap.size, 0, none⟩) 0 cap [] → Below w.heap.size w w' → wpList Try.prog ops Q rest (a.put o.dst (.slice (some ⟨w.heap.size, 0, none⟩) n cap)) w') :
    wpList Try.prog ops Q (o :: rest) a w := by
  refine wpList_plain hgd fun _ hK => ?_
  obtain ⟨i, hi, hz, hsz, hby⟩ := info_parts info8
  have hrun := Lib.run_append_nil_zeros (P := Try.prog) w 22 3 o.type 5 i (.int .u8 0) .i64 .i64 Try.underlying22 Try.underlying3 hi hz n h0 (by omega) (by omega) (by rw [hby]; omega)
  have hge := grownCap_ge w n 0 5
  have hle := grownCap_le_maxLen w n 0 5 (by unfold maxLen; omega)
  have hown : Own (w.drew.alloc (.cells (Builtin.zeroCells (Value.int .u8 0).cells n ++ Builtin.zeroCells (Value.int .u8 0).cells (grownCap w n 0 5 - n)) 5)) w.heap.size (some ⟨w.heap.size, 0, none⟩) 0 (grownCap w n 0 5) [] := by
    refine ⟨by simp [vs], .inr ⟨w.heap.size, grownCap w n 0 5, _, rfl, Nat.le_refl _, heap_alloc_new w.drew _, Nat.zero_le _, hle, ?_, by simp [vs]⟩⟩
    simp [size_zeroCells, Value.cells]
    omega
  unfold Oper.wp execOp
  simp only [ho, resolve, invoke, builtin, Sem.run_bind, Sem.run_pure, Result.andThen_ok, List.map_toArray, List.map_cons, List.map_nil, hs, hx, hrun]
  exact hK _ _ (h _ _ hge hown (((Below.refl _ _).drew).alloc (Nat.le_refl _) _))

set_option maxHeartbeats 1000000 in
theorem grow_any (n : Nat) (w : World) (h0 : 0 < n) (hn : n ≤ 140737488355328) :
    Calls Try.prog 31 #[.slice none 0 0, .int .i64 (n : Int)] w fun e w' => ∃ A c, e = .returned (.slice A 0 c) ∧ Own w' w.heap.size A 0 c [] ∧ Below w.heap.size w w' := by
  have h1 : (0 : Int) < (n : Int) := by omega
  have h2 : ¬ (n : Int) < 0 := by omega
  go_enter Try.func31, Try.ntmps31
  go_wp2_with (first | (at_builtin; refine appZ rfl (.tmp 20) (.tmp 21) rfl rfl rfl h0 hn ?_; intro cap w' hc ho hb))
  go_ret
  exact ⟨_, _, rfl, ho, hb⟩

/-- three cells -/
theorem cells3 {w : World} {b : Nat} {x0 x1 x2 : Value} {t : TypeId} (h : w.heap[b]? = some (.cells #[x0, x1, x2] t (0, 0))) :
    w.cell? ⟨b, 0, none⟩ = some x0 ∧ w.cell? ⟨b, 1, none⟩ = some x1 ∧ w.cell? ⟨b, 2, none⟩ = some x2 := by
  refine ⟨?_, ?_, ?_⟩ <;> (rw [cell_of_row w b _ _ _ _ h]; rfl)

set_option maxHeartbeats 2000000 in
theorem concat3_any {A0 A1 A2 : Option Addr} {n0 n1 n2 c0 c1 c2 g B cc : Nat} {l0 l1 l2 : List UInt8} {t : TypeId} (w : World) (hg : w.heap[g]? = some (.cells #[.slice A0 n0 c0, .slice A1 n1 c1, .slice A2 n2 c2] t (0, 0)))
    (h0 : Rd w B A0 n0 l0) (h1 : Rd w B A1 n1 l1) (h2 : Rd w B A2 n2 l2) (hB : B ≤ w.heap.size) (hp : 0 < n0) (hm : n0 + n1 + n2 ≤ 140737488355328) :
    Calls Try.prog 27 #[.slice (some ⟨g, 0, none⟩) 3 cc] w fun e w' => ∃ A c, e = .returned (.slice A (n0 + n1 + n2) c) ∧ Own w' w.heap.size A (n0 + n1 + n2) c (l0 ++ l1 ++ l2) ∧ Below w.heap.size w w' := by
  have hgl := Blk_lt hg
  obtain ⟨q0, q1, q2⟩ := cells3 hg
  have HG := Lib.hid hg
  have H0 := Lib.hid h0
  have H1 := Lib.hid h1
  have H2 := Lib.hid h2
  have GR := Lib.hid (fun w => grow_any (n0 + n1 + n2) w (by omega) hm)
  rw [show ((n0 + n1 + n2 : Nat) : Int) = (n0 : Int) + (n1 : Int) + (n2 : Int) from by omega] at GR
  clear hg h0 h1 h2
  go_enter Try.func27, Try.ntmps27
  go_wp2
  go_loop [3, 11] (fun s i => (i = .int .i64 0 ∧ s = .int .i64 0) ∨ (i = .int .i64 1 ∧ s = .int .i64 (n0 : Int)) ∨ (i = .int .i64 2 ∧ s = .int .i64 ((n0 : Int) + (n1 : Int))) ∨ (i = .int .i64 3 ∧ s = .int .i64 ((n0 : Int) + (n1 : Int) + (n2 : Int)))) (fun _ i => 3 - (intOf i).toNat)
  case atStart => exact .inl ⟨rfl, rfl⟩
  case round =>
    rcases hrel with ⟨rfl, rfl⟩ | ⟨rfl, rfl⟩ | ⟨rfl, rfl⟩ | ⟨rfl, rfl⟩
    · go_wp2
      go_round
      case rel => exact .inr (.inl ⟨rfl, rfl⟩)
      case measure => simp [intOf]
    · go_wp2
      go_round
      case rel => exact .inr (.inr (.inl ⟨rfl, rfl⟩))
      case measure => simp [intOf]
    · go_wp2
      go_round
      case rel => exact .inr (.inr (.inr ⟨rfl, rfl⟩))
      case measure => simp [intOf]
    · clear q0 q1 q2
      go_wp2_with (go_at_call 31; refine (GR.out _).mono ?_; rintro e w1 ⟨A, c, rfl, ho, hb⟩)
      go_loopw [6, 27] (fun o i wr => ∃ (k m : Nat) (A : Option Addr) (c : Nat) (l : List UInt8), i = .int .i64 (k : Int) ∧ o = .slice A m c ∧ Own wr w.heap.size A m c l ∧ Below w.heap.size w wr ∧
        Hid ((k = 0 ∧ m = 0 ∧ l = []) ∨ (k = 1 ∧ m = n0 ∧ l = l0) ∨ (k = 2 ∧ m = n0 + n1 ∧ l = l0 ++ l1) ∨ (k = 3 ∧ m = n0 + n1 + n2 ∧ l = l0 ++ l1 ++ l2))) (fun _ i _ => 3 - (intOf i).toNat)
      case atStart => exact ⟨0, 0, A, c, [], rfl, rfl, ho, hb, Lib.hid (.inl ⟨rfl, rfl, rfl⟩)⟩
      case round =>
        clear ho hb GR
        obtain ⟨k, m, A, c, l, rfl, rfl, ho, hb, hk⟩ := hrel
        obtain ⟨q0, q1, q2⟩ := cells3 ((hb.block g hgl).trans HG.out)
        have zb := hb.size
        rcases hk.out with ⟨rfl, rfl, rfl⟩ | ⟨rfl, rfl, rfl⟩ | ⟨rfl, rfl, rfl⟩ | ⟨rfl, rfl, rfl⟩
        · go_wp2_with (first | (at_builtin; refine app rfl (.tmp 31) (.tmp 32) rfl rfl ho rfl (H0.out.below (hb.mono hB)) (by omega) hb.size ?_; intro A' c' w' ho' hg' hb' hs'))
          go_roundw
          case rel => exact ⟨1, n0, A', c', l0, rfl, rfl, (by simpa only [Nat.zero_add, List.nil_append] using ho'), hb.trans hb', Lib.hid (.inr (.inl ⟨rfl, rfl, rfl⟩))⟩
          case measure => simp [intOf]
        · go_wp2_with (first | (at_builtin; refine app rfl (.tmp 31) (.tmp 32) rfl rfl ho rfl (H1.out.below (hb.mono hB)) (by omega) hb.size ?_; intro A' c' w' ho' hg' hb' hs'))
          go_roundw
          case rel => exact ⟨2, _, A', c', _, rfl, rfl, ho', hb.trans hb', Lib.hid (.inr (.inr (.inl ⟨rfl, rfl, rfl⟩)))⟩
          case measure => simp [intOf]
        · go_wp2_with (first | (at_builtin; refine app rfl (.tmp 31) (.tmp 32) rfl rfl ho rfl (H2.out.below (hb.mono hB)) (by omega) hb.size ?_; intro A' c' w' ho' hg' hb' hs'))
          go_roundw
          case rel => exact ⟨3, _, A', c', _, rfl, rfl, ho', hb.trans hb', Lib.hid (.inr (.inr (.inr ⟨rfl, rfl, rfl⟩)))⟩
          case measure => simp [intOf]
        · go_wp2
          go_ret
          exact ⟨A, c, rfl, (by first | exact ho | (rw [List.append_assoc] at ho; exact ho)), hb⟩
end Go.Proofs.Ytiogcdpmgomllaa.Cur
