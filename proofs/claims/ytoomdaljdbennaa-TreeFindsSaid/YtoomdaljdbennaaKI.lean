/- Joined texts: Concat, PlInt, PlIntB, Concat2, ConcatN. -/
import Derived.Lib.AppendZeros
import Derived.Test.YtoomdaljdbennaaKA
import Derived.Test.YtoomdaljdbennaaKT
set_option linter.unusedSimpArgs false
set_option linter.unusedVariables false
/- Walks: slices.Grow of the nil slice, slices.Concat of three slices of bytes. -/
namespace Go.Proofs.Ytoomdaljdbennaa.Cur
open Go.RowKit Kit

/-- append([]byte(nil), make([]byte, n)...) -/
theorem appZ {ops : Array Oper} {rest : List Oper} {o : Oper} {a : Act} {w : World} {Q : Exit → Act → World → Prop} (hgd : o.guard = none) (s x : Operand)
    (ho : o.op = .call { callee := .builtin .append, args := #[s, x], argTypes := #[22, 3] }) (hs : a.eval s = .slice none 0 0) {n : Nat} (hx : a.eval x = .int .i64 (n : Int))
    (h0 : 0 < n) (hn : n ≤ 140737488355328)
    (h : ∀ cap w', n ≤ cap → Own w' w.heap.size (some ⟨w.heap.size, 0, none⟩) 0 cap [] → Below w.heap.size w w' → wpList Try.prog ops Q rest (a.put o.dst (.slice (some ⟨w.heap.size, 0, none⟩) n cap)) w') :
    wpList Try.prog ops Q (o :: rest) a w := by
  refine wpList_plain hgd fun _ hK => ?_
  obtain ⟨i, hi, hz, hsz, hby⟩ := info_parts info8
  have hrun := Lib.run_append_nil_zeros (P := Try.prog) w 22 3 o.type 5 i (.int .u8 0) .i64 .i64 Try.underlying22 Try.underlying3 hi hz n h0 (by omega) (by omega) (by rw [hby]; omega)
  have hge := grownCap_ge w n 0 5
  have hle := grownCap_le_maxLen w n 0 5 (by unfold maxLen; omega)
  have hown : Own (w.drew.alloc (.cells (Builtin.zeroCells (Value.int .u8 0).cells n ++ Builtin.zeroCells (Value.int .u8 0).cells (grownCap w n 0 5 - n)) 5)) w.heap.size (some ⟨w.heap.size, 0, none⟩) 0 (grownCap w n 0 5) [] := by
    refine ⟨by simp [vs], .inr ⟨w.heap.size, grownCap w n 0 5, _, rfl, Nat.le_refl _, heap_alloc_new w.drew _, Nat.zero_le _, hle, ?_, by simp [vs]⟩⟩
    simp [size_zeroCells, Value.cells]
    omega
  unfold Oper.wp execOp
  simp only [ho, resolve, invoke, builtin, Sem.run_bind, Sem.run_pure, Result.andThen_ok, List.map_toArray, List.map_cons, List.map_nil, hs, hx, hrun]
  exact hK _ _ (h _ _ hge hown (((Below.refl _ _).drew).alloc (Nat.le_refl _) _))

set_option maxHeartbeats 1000000 in
theorem grow_any (n : Nat) (w : World) (h0 : 0 < n) (hn : n ≤ 140737488355328) :
    Calls Try.prog 55 #[.slice none 0 0, .int .i64 (n : Int)] w fun e w' => ∃ A c, e = .returned (.slice A 0 c) ∧ Own w' w.heap.size A 0 c [] ∧ Below w.heap.size w w' := by
  have h1 : (0 : Int) < (n : Int) := by omega
  have h2 : ¬ (n : Int) < 0 := by omega
  go_enter Try.func55, Try.ntmps55
  go_wp2_with (first | (at_builtin; refine appZ rfl (.tmp 20) (.tmp 21) rfl rfl rfl h0 hn ?_; intro cap w' hc ho hb))
  go_ret
  exact ⟨_, _, rfl, ho, hb⟩

/-- three cells -/
theorem cells3 {w : World} {b : Nat} {x0 x1 x2 : Value} {t : TypeId} (h : w.heap[b]? = some (.cells #[x0, x1, x2] t (0, 0))) :
    w.cell? ⟨b, 0, none⟩ = some x0 ∧ w.cell? ⟨b, 1, none⟩ = some x1 ∧ w.cell? ⟨b, 2, none⟩ = some x2 := by
  refine ⟨?_, ?_, ?_⟩ <;> (rw [cell_of_row w b _ _ _ _ h]; rfl)

set_option maxHeartbeats 2000000 in
theorem concat3_any {A0 A1 A2 : Option Addr} {n0 n1 n2 c0 c1 c2 g B cc : Nat} {l0 l1 l2 : List UInt8} {t : TypeId} (w : World) (hg : w.heap[g]? = some (.cells #[.slice A0 n0 c0, .slice A1 n1 c1, .slice A2 n2 c2] t (0, 0)))
    (h0 : Rd w B A0 n0 l0) (h1 : Rd w B A1 n1 l1) (h2 : Rd w B A2 n2 l2) (hB : B ≤ w.heap.size) (hp : 0 < n0) (hm : n0 + n1 + n2 ≤ 140737488355328) :
    Calls Try.prog 48 #[.slice (some ⟨g, 0, none⟩) 3 cc] w fun e w' => ∃ A c, e = .returned (.slice A (n0 + n1 + n2) c) ∧ Own w' w.heap.size A (n0 + n1 + n2) c (l0 ++ l1 ++ l2) ∧ Below w.heap.size w w' := by
  have hgl := Blk_lt hg
  obtain ⟨q0, q1, q2⟩ := cells3 hg
  have HG := Lib.hid hg
  have H0 := Lib.hid h0
  have H1 := Lib.hid h1
  have H2 := Lib.hid h2
  have GR := Lib.hid (fun w => grow_any (n0 + n1 + n2) w (by omega) hm)
  rw [show ((n0 + n1 + n2 : Nat) : Int) = (n0 : Int) + (n1 : Int) + (n2 : Int) from by omega] at GR
  clear hg h0 h1 h2
  go_enter Try.func48, Try.ntmps48
  go_wp2
  go_loop [3, 11] (fun s i => (i = .int .i64 0 ∧ s = .int .i64 0) ∨ (i = .int .i64 1 ∧ s = .int .i64 (n0 : Int)) ∨ (i = .int .i64 2 ∧ s = .int .i64 ((n0 : Int) + (n1 : Int))) ∨ (i = .int .i64 3 ∧ s = .int .i64 ((n0 : Int) + (n1 : Int) + (n2 : Int)))) (fun _ i => 3 - (intOf i).toNat)
  case atStart => exact .inl ⟨rfl, rfl⟩
  case round =>
    rcases hrel with ⟨rfl, rfl⟩ | ⟨rfl, rfl⟩ | ⟨rfl, rfl⟩ | ⟨rfl, rfl⟩
    · go_wp2
      go_round
      case rel => exact .inr (.inl ⟨rfl, rfl⟩)
      case measure => simp [intOf]
    · go_wp2
      go_round
      case rel => exact .inr (.inr (.inl ⟨rfl, rfl⟩))
      case measure => simp [intOf]
    · go_wp2
      go_round
      case rel => exact .inr (.inr (.inr ⟨rfl, rfl⟩))
      case measure => simp [intOf]
    · clear q0 q1 q2
      go_wp2_with (go_at_call 55; refine (GR.out _).mono ?_; rintro e w1 ⟨A, c, rfl, ho, hb⟩)
      go_loopw [6, 27] (fun o i wr => ∃ (k m : Nat) (A : Option Addr) (c : Nat) (l : List UInt8), i = .int .i64 (k : Int) ∧ o = .slice A m c ∧ Own wr w.heap.size A m c l ∧ Below w.heap.size w wr ∧
        Hid ((k = 0 ∧ m = 0 ∧ l = []) ∨ (k = 1 ∧ m = n0 ∧ l = l0) ∨ (k = 2 ∧ m = n0 + n1 ∧ l = l0 ++ l1) ∨ (k = 3 ∧ m = n0 + n1 + n2 ∧ l = l0 ++ l1 ++ l2))) (fun _ i _ => 3 - (intOf i).toNat)
      case atStart => exact ⟨0, 0, A, c, [], rfl, rfl, ho, hb, Lib.hid (.inl ⟨rfl, rfl, rfl⟩)⟩
      case round =>
        clear ho hb GR
        obtain ⟨k, m, A, c, l, rfl, rfl, ho, hb, hk⟩ := hrel
        obtain ⟨q0, q1, q2⟩ := cells3 ((hb.block g hgl).trans HG.out)
        have zb := hb.size
        rcases hk.out with ⟨rfl, rfl, rfl⟩ | ⟨rfl, rfl, rfl⟩ | ⟨rfl, rfl, rfl⟩ | ⟨rfl, rfl, rfl⟩
        · go_wp2_with (first | (at_builtin; refine app rfl (.tmp 31) (.tmp 32) rfl rfl ho rfl (H0.out.below (hb.mono hB)) (by omega) hb.size ?_; intro A' c' w' ho' hg' hb' hs'))
          go_roundw
          case rel => exact ⟨1, n0, A', c', l0, rfl, rfl, (by simpa only [Nat.zero_add, List.nil_append] using ho'), hb.trans hb', Lib.hid (.inr (.inl ⟨rfl, rfl, rfl⟩))⟩
          case measure => simp [intOf]
        · go_wp2_with (first | (at_builtin; refine app rfl (.tmp 31) (.tmp 32) rfl rfl ho rfl (H1.out.below (hb.mono hB)) (by omega) hb.size ?_; intro A' c' w' ho' hg' hb' hs'))
          go_roundw
          case rel => exact ⟨2, _, A', c', _, rfl, rfl, ho', hb.trans hb', Lib.hid (.inr (.inr (.inl ⟨rfl, rfl, rfl⟩)))⟩
          case measure => simp [intOf]
        · go_wp2_with (first | (at_builtin; refine app rfl (.tmp 31) (.tmp 32) rfl rfl ho rfl (H2.out.below (hb.mono hB)) (by omega) hb.size ?_; intro A' c' w' ho' hg' hb' hs'))
          go_roundw
          case rel => exact ⟨3, _, A', c', _, rfl, rfl, ho', hb.trans hb', Lib.hid (.inr (.inr (.inr ⟨rfl, rfl, rfl⟩)))⟩
          case measure => simp [intOf]
        · go_wp2
          go_ret
          exact ⟨A, c, rfl, (by first | exact ho | (rw [List.append_assoc] at ho; exact ho)), hb⟩
end Go.Proofs.Ytoomdaljdbennaa.Cur
/- Plain laws of the contents octets of integers: valid ones, their values, their order, their octets. No program in sight. -/
namespace Go.Proofs.Ytoomdaljdbennaa.Int4
open Kit Cur Tlv

/-- 256 to the k, as an integer -/
def pw (k : Nat) : Int := ((256 ^ k : Nat) : Int)
theorem pw_zero : pw 0 = 1 := rfl
theorem pw_succ (k : Nat) : pw (k + 1) = pw k * 256 := by unfold pw; rw [Nat.pow_succ]; omega
theorem pw_pos (k : Nat) : 1 ≤ pw k := by unfold pw; have : 0 < 256 ^ k := Nat.pow_pos (by omega); omega
theorem pw_le {a b : Nat} (h : a ≤ b) : pw a ≤ pw b := by unfold pw; have := Nat.pow_le_pow_right (n := 256) (by omega) h; omega
/-- the number of digits, as an integer -/
def beI (l : List UInt8) : Int := ((be l : Nat) : Int)
theorem beI_nil : beI [] = 0 := rfl
theorem beI_cons (x : UInt8) (l : List UInt8) : beI (x :: l) = (x.toNat : Int) * pw l.length + beI l := by
  unfold beI pw; rw [be_cons]; simp
theorem beI_snoc (l : List UInt8) (x : UInt8) : beI (l ++ [x]) = beI l * 256 + (x.toNat : Int) := by unfold beI; rw [be_snoc]; simp
theorem beI_bd (l : List UInt8) : 0 ≤ beI l ∧ beI l < pw l.length := by unfold beI pw; have := be_lt l; omega
theorem beI_inj {a b : List UInt8} (hl : a.length = b.length) (h : beI a = beI b) : a = b := be_inj hl (by unfold beI at h; omega)

/-- is the sign bit set? -/
def neg (l : List UInt8) : Bool := decide (128 ≤ bt l 0)
def validI (l : List UInt8) : Bool :=
  decide (l.length = 1) || (decide (2 ≤ l.length) && !(decide (bt l 0 = 0) && decide (bt l 1 < 128)) && !(decide (bt l 0 = 255) && decide (128 ≤ bt l 1)))
theorem valid_nil {l : List UInt8} (h : l.length = 0) : validI l = false := by unfold validI; simp [h]
theorem valid_one {l : List UInt8} (h : l.length = 1) : validI l = true := by unfold validI; simp [h]
theorem valid_two {l : List UInt8} (h : 2 ≤ l.length) : validI l = (!(decide (bt l 0 = 0) && decide (bt l 1 < 128)) && !(decide (bt l 0 = 255) && decide (128 ≤ bt l 1))) := by
  unfold validI; simp [h, show ¬ l.length = 1 from by omega]
theorem valid_iff {l : List UInt8} : validI l = true ↔ l.length = 1 ∨ (2 ≤ l.length ∧ ¬ (bt l 0 = 0 ∧ bt l 1 < 128) ∧ ¬ (bt l 0 = 255 ∧ 128 ≤ bt l 1)) := by
  rcases (by omega : l.length = 0 ∨ l.length = 1 ∨ 2 ≤ l.length) with h | h | h
  · rw [valid_nil h]; simp; omega
  · rw [valid_one h]; simp [h]
  · rw [valid_two h]
    simp only [Bool.and_eq_true, Bool.not_eq_true', Bool.and_eq_false_iff, decide_eq_false_iff_not]
    constructor
    · rintro ⟨a, b⟩; exact .inr ⟨h, by omega, by omega⟩
    · rintro (h1 | ⟨_, a, b⟩)
      · omega
      · exact ⟨by omega, by omega⟩
theorem valid_pos {l : List UInt8} (h : validI l = true) : 1 ≤ l.length := by rcases valid_iff.1 h with h | h <;> omega

/-- the value -/
def sv (l : List UInt8) : Int := beI l - (if neg l = true then pw l.length else 0)
theorem neg_yes {l : List UInt8} (h : 128 ≤ bt l 0) : neg l = true := by unfold neg; simp [h]
theorem neg_no {l : List UInt8} (h : ¬ 128 ≤ bt l 0) : neg l = false := by unfold neg; simp; omega
theorem sv_neg {l : List UInt8} (h : 128 ≤ bt l 0) : sv l = beI l - pw l.length := by unfold sv; rw [neg_yes h]; simp
theorem sv_pos {l : List UInt8} (h : ¬ 128 ≤ bt l 0) : sv l = beI l := by unfold sv; rw [neg_no h]; simp
/-- the two highest digits, and what is below -/
theorem beI_two {l : List UInt8} {k : Nat} (h : l.length = k + 2) : ∃ r, beI l = (bt l 0 * 256 + bt l 1) * pw k + r ∧ 0 ≤ r ∧ r < pw k := by
  match l, h with
  | x :: y :: t, h =>
    have ht : t.length = k := by simpa using h
    refine ⟨beI t, ?_, ?_⟩
    · rw [beI_cons, beI_cons, List.length_cons, pw_succ, ht]
      show _ = ((x.toNat : Int) * 256 + (y.toNat : Int)) * pw k + beI t
      rw [Int.add_mul, Int.mul_assoc, Int.mul_comm 256 (pw k)]
      omega
    · have := beI_bd t; rw [ht] at this; exact this
theorem beI_one {l : List UInt8} (h : l.length = 1) : beI l = bt l 0 := by
  match l, h with
  | [x], _ => rw [beI_cons, beI_nil]; show (x.toNat : Int) * 1 + 0 = (x.toNat : Int); omega
/-- how great the value of a valid one is, by its length -/
theorem sv_range {l : List UInt8} (h : validI l = true) : (¬ 128 ≤ bt l 0 → 0 ≤ sv l ∧ sv l < 128 * pw (l.length - 1) ∧ (2 ≤ l.length → 128 * pw (l.length - 2) ≤ sv l)) ∧
    (128 ≤ bt l 0 → sv l < 0 ∧ -(128 * pw (l.length - 1)) ≤ sv l ∧ (2 ≤ l.length → sv l < -(128 * pw (l.length - 2)))) := by
  have b0 := bt_lo l 0
  have b0' := bt_hi l 0
  have b1 := bt_lo l 1
  have b1' := bt_hi l 1
  rcases valid_iff.1 h with h1 | ⟨h2, v1, v2⟩
  · have e := beI_one h1
    have p0 : pw (l.length - 1) = 1 := by rw [h1]; rfl
    have p1 : pw l.length = 256 := by rw [h1]; rfl
    refine ⟨fun hn => ?_, fun hn => ?_⟩
    · rw [sv_pos hn, p0]; omega
    · rw [sv_neg hn, p0, p1]; omega
  · obtain ⟨k, hk⟩ : ∃ k, l.length = k + 2 := ⟨l.length - 2, by omega⟩
    obtain ⟨r, e, r0, r1⟩ := beI_two hk
    have e1 : pw (l.length - 1) = pw k * 256 := by rw [hk]; exact pw_succ k
    have e2 : pw (l.length - 2) = pw k := by rw [hk]; rfl
    have e3 : pw l.length = pw k * 256 * 256 := by rw [hk, pw_succ, pw_succ]
    have pp := pw_pos k
    have sp := fun h => sv_pos (l := l) h
    have sn := fun h => sv_neg (l := l) h
    generalize pw k = P at *
    generalize bt l 0 = x at *
    generalize bt l 1 = y at *
    refine ⟨fun hn => ?_, fun hn => ?_⟩
    · rw [sp hn, e1, e2, e]
      have m1 : (x * 256 + y) * P ≤ (127 * 256 + 255) * P := Int.mul_le_mul_of_nonneg_right (by omega) (by omega)
      have m2 : 128 * P ≤ (x * 256 + y) * P := Int.mul_le_mul_of_nonneg_right (by omega) (by omega)
      refine ⟨by omega, by omega, fun _ => by omega⟩
    · rw [sn hn, e1, e2, e3, e]
      have m1 : (x * 256 + y) * P ≤ (255 * 256 + 127) * P := Int.mul_le_mul_of_nonneg_right (by omega) (by omega)
      have m2 : 128 * 256 * P ≤ (x * 256 + y) * P := Int.mul_le_mul_of_nonneg_right (by omega) (by omega)
      refine ⟨by omega, by omega, fun _ => by omega⟩
theorem sv_len {a b : List UInt8} (ha : validI a = true) (hb : validI b = true) (e : sv a = sv b) : ¬ a.length < b.length := by
  intro hl
  obtain ⟨a1, a2⟩ := sv_range ha
  obtain ⟨b1, b2⟩ := sv_range hb
  have := valid_pos ha
  have hp := pw_le (show a.length - 1 ≤ b.length - 2 from by omega)
  by_cases ga : 128 ≤ bt a 0 <;> by_cases gb : 128 ≤ bt b 0
  · have x := a2 ga; have y := (b2 gb).2.2 (by omega); omega
  · have x := a2 ga; have y := b1 gb; omega
  · have x := a1 ga; have y := b2 gb; omega
  · have x := a1 ga; have y := (b1 gb).2.2 (by omega); omega
/-- a valid one is known by its value -/
theorem sv_inj {a b : List UInt8} (ha : validI a = true) (hb : validI b = true) (e : sv a = sv b) : a = b := by
  have h1 := sv_len ha hb e
  have h2 := sv_len hb ha e.symm
  have hl : a.length = b.length := by omega
  obtain ⟨a1, a2⟩ := sv_range ha
  obtain ⟨b1, b2⟩ := sv_range hb
  apply beI_inj hl
  by_cases ga : 128 ≤ bt a 0 <;> by_cases gb : 128 ≤ bt b 0
  · rw [sv_neg ga, sv_neg gb, hl] at e; omega
  · have := (a2 ga).1; have := (b1 gb).1; omega
  · have := (a1 ga).1; have := (b2 gb).1; omega
  · rw [sv_pos ga, sv_pos gb] at e; omega

theorem bt_left {l m : List UInt8} {k : Nat} (h : k < l.length) : bt (l ++ m) k = bt l k := by
  unfold bt; simp [List.getD, List.getElem?_append_left h]
/-- the last octet -/
theorem sv_snoc {l : List UInt8} (h : 1 ≤ l.length) (x : UInt8) : sv (l ++ [x]) = sv l * 256 + (x.toNat : Int) := by
  have e : bt (l ++ [x]) 0 = bt l 0 := bt_left h
  by_cases g : 128 ≤ bt l 0
  · rw [sv_neg g, sv_neg (by rw [e]; exact g), beI_snoc, List.length_append, List.length_singleton, pw_succ]; omega
  · rw [sv_pos g, sv_pos (by rw [e]; exact g), beI_snoc]
/-- a first octet that is none too many -/
theorem sv_drop {l : List UInt8} (h : 2 ≤ l.length) (hv : validI l = false) : sv (l.drop 1) = sv l := by
  have b0 := bt_lo l 0
  have b0' := bt_hi l 0
  have b1 := bt_lo l 1
  have b1' := bt_hi l 1
  have hv' : ¬ validI l = true := by simp [hv]
  rw [valid_iff] at hv'
  match l, h with
  | x :: y :: t, _ =>
    have e0 : bt (x :: y :: t) 0 = (x.toNat : Int) := rfl
    have e1 : bt (x :: y :: t) 1 = (y.toNat : Int) := rfl
    have e2 : bt (y :: t) 0 = (y.toNat : Int) := rfl
    rw [e0] at hv'; rw [e1] at hv'
    rw [List.drop_succ_cons, List.drop_zero]
    by_cases g : 128 ≤ (y.toNat : Int)
    · rw [sv_neg (l := y :: t) g]
      have hx : (x.toNat : Int) = 255 := by omega
      have p1 : pw (x :: y :: t).length = pw (y :: t).length * 256 := pw_succ _
      rw [sv_neg (l := x :: y :: t) (by rw [e0]; omega), beI_cons x, p1, hx]
      omega
    · rw [sv_pos (l := y :: t) g]
      have hx : (x.toNat : Int) = 0 := by omega
      rw [sv_pos (l := x :: y :: t) (by rw [e0]; omega), beI_cons x, hx]
      omega
/-- the contents octets without what is too many -/
def trimI : List UInt8 → List UInt8
  | [] => []
  | x :: t => if 1 ≤ t.length ∧ validI (x :: t) = false then trimI t else x :: t
theorem trim_go {l : List UInt8} (h : 2 ≤ l.length) (hv : validI l = false) : trimI l = trimI (l.drop 1) := by
  match l, h with
  | x :: t, h => rw [trimI, if_pos ⟨by simpa using h, hv⟩, List.drop_succ_cons, List.drop_zero]
theorem trim_stop {l : List UInt8} (h : ¬ (2 ≤ l.length ∧ validI l = false)) : trimI l = l := by
  cases l with
  | nil => rfl
  | cons x t => rw [trimI, if_neg (by intro hh; exact h ⟨by simp; omega, hh.2⟩)]
theorem trim_ok : ∀ (l : List UInt8), 1 ≤ l.length → validI (trimI l) = true ∧ sv (trimI l) = sv l ∧ (trimI l).length ≤ l.length
  | [], h => by simp at h
  | x :: t, h => by
    by_cases g : 2 ≤ (x :: t).length ∧ validI (x :: t) = false
    · rw [trim_go g.1 g.2, List.drop_succ_cons, List.drop_zero]
      obtain ⟨a, b, c⟩ := trim_ok t (by have := g.1; simp at this; exact this)
      have := sv_drop g.1 g.2
      rw [List.drop_succ_cons, List.drop_zero] at this
      exact ⟨a, by rw [b, this], by simp; omega⟩
    · rw [trim_stop g]
      refine ⟨?_, rfl, Nat.le_refl _⟩
      rcases (by cases t <;> simp : (x :: t).length = 1 ∨ 2 ≤ (x :: t).length) with h1 | h2
      · exact valid_one h1
      · cases hv : validI (x :: t) with
        | true => rfl
        | false => exact absurd ⟨h2, hv⟩ g
/-- the contents octets of a number -/
def intF : Nat → Int → List UInt8
  | 0, n => [ofI (n % 256)]
  | f + 1, n => if -128 ≤ n ∧ n < 128 then [ofI (n % 256)] else intF f (n / 256) ++ [ofI (n % 256)]
def intL (n : Int) : List UInt8 := intF 7 n
theorem ofI_toNat' (n : Int) : ((ofI (n % 256)).toNat : Int) = n % 256 := ofI_toNat (by omega) (by omega)
theorem intF_small (f : Nat) {n : Int} (h : -128 ≤ n ∧ n < 128) : intF f n = [ofI (n % 256)] := by cases f <;> simp [intF, h]
theorem sv_one (n : Int) (h : -128 ≤ n ∧ n < 128) : validI [ofI (n % 256)] = true ∧ sv [ofI (n % 256)] = n := by
  refine ⟨valid_one rfl, ?_⟩
  have e : bt [ofI (n % 256)] 0 = n % 256 := ofI_toNat' n
  have eb := beI_one (l := [ofI (n % 256)]) rfl
  by_cases g : 128 ≤ bt [ofI (n % 256)] 0
  · rw [sv_neg g, eb]; rw [e] at g ⊢; show n % 256 - 256 = n; omega
  · rw [sv_pos g, eb]; rw [e] at g ⊢; omega
theorem bt_snoc1 {l : List UInt8} (x : UInt8) : bt (l ++ [x]) 1 = if l.length = 1 then (x.toNat : Int) else bt l 1 := by
  match l with
  | [] => rfl
  | [y] => rfl
  | y :: z :: t => simp [bt]
theorem intF_ok : ∀ (f : Nat) (n : Int), -(128 * pw f) ≤ n → n < 128 * pw f → validI (intF f n) = true ∧ sv (intF f n) = n ∧ (intF f n).length ≤ f + 1
  | 0, n, h0, h1 => by
    rw [pw_zero] at h0 h1
    obtain ⟨a, b⟩ := sv_one n (by omega)
    exact ⟨a, b, Nat.le_refl _⟩
  | f + 1, n, h0, h1 => by
    by_cases hs : -128 ≤ n ∧ n < 128
    · rw [intF_small _ hs]
      obtain ⟨a, b⟩ := sv_one n hs
      exact ⟨a, b, by simp⟩
    · rw [pw_succ] at h0 h1
      obtain ⟨a, b, c⟩ := intF_ok f (n / 256) (by omega) (by omega)
      rw [intF, if_neg hs]
      have hp := valid_pos a
      have hx := ofI_toNat' n
      refine ⟨?_, by rw [sv_snoc hp, b, hx]; omega, by simp; exact c⟩
      obtain ⟨r1, r2⟩ := sv_range a
      have e0 : bt (intF f (n / 256) ++ [ofI (n % 256)]) 0 = bt (intF f (n / 256)) 0 := bt_left hp
      have e1 := bt_snoc1 (l := intF f (n / 256)) (ofI (n % 256))
      rw [valid_iff, e0, e1]
      refine .inr ⟨by simp; omega, ?_⟩
      rcases valid_iff.1 a with h | ⟨h2, v1, v2⟩
      · rw [if_pos h, hx]
        have eb := beI_one h
        have p : pw (intF f (n / 256)).length = 256 := by rw [h]; rfl
        have y0 := bt_lo (intF f (n / 256)) 0
        have y1 := bt_hi (intF f (n / 256)) 0
        by_cases g : 128 ≤ bt (intF f (n / 256)) 0
        · rw [sv_neg g, eb, p] at b; omega
        · rw [sv_pos g, eb] at b; omega
      · rw [if_neg (by omega)]; exact ⟨v1, v2⟩
/-- the numbers of 64 bits -/
theorem intL_ok {n : Int} (h0 : -9223372036854775808 ≤ n) (h1 : n ≤ 9223372036854775807) : validI (intL n) = true ∧ sv (intL n) = n ∧ (intL n).length ≤ 8 := by
  have p : pw 7 = 72057594037927936 := by rfl
  exact intF_ok 7 n (by rw [p]; omega) (by rw [p]; omega)
theorem intF_more : ∀ (f : Nat) (n : Int), -(128 * pw f) ≤ n → n < 128 * pw f → intF (f + 1) n = intF f n
  | 0, n, h0, h1 => by
    rw [pw_zero] at h0 h1
    rw [intF_small _ (by omega), intF_small _ (by omega)]
  | f + 1, n, h0, h1 => by
    by_cases hs : -128 ≤ n ∧ n < 128
    · rw [intF_small _ hs, intF_small _ hs]
    · rw [pw_succ] at h0 h1
      have := intF_more f (n / 256) (by omega) (by omega)
      rw [intF, if_neg hs, this]
      conv => rhs; rw [intF, if_neg hs]
theorem intL_small {n : Int} (h : -128 ≤ n ∧ n < 128) : intL n = [ofI (n % 256)] := intF_small 7 h
theorem intL_big {n : Int} (h : ¬ (-128 ≤ n ∧ n < 128)) (h0 : -9223372036854775808 ≤ n) (h1 : n ≤ 9223372036854775807) : intL n = intL (n / 256) ++ [ofI (n % 256)] := by
  have p : pw 6 = 281474976710656 := by rfl
  have e : intF 7 (n / 256) = intF 6 (n / 256) := intF_more 6 (n / 256) (by rw [p]; omega) (by rw [p]; omega)
  unfold intL
  rw [e]
  conv => lhs; rw [intF, if_neg h]
/-- what has the value, is valid, is these octets -/
theorem intL_of {l : List UInt8} {n : Int} (h0 : -9223372036854775808 ≤ n) (h1 : n ≤ 9223372036854775807) (hv : validI l = true) (hs : sv l = n) : l = intL n := by
  obtain ⟨a, b, _⟩ := intL_ok h0 h1
  exact sv_inj hv a (by rw [hs, b])
/-- a number, divided again and again -/
def dv : Nat → Int → Int
  | 0, n => n
  | k + 1, n => dv k n / 256
theorem dv_0 (n : Int) : n = dv 0 n := rfl
theorem dv_1 (n : Int) : n / 256 = dv 1 n := rfl
theorem dv_2 (n : Int) : n / 65536 = dv 2 n := by show _ = dv 1 n / 256; rw [← dv_1]; omega
theorem dv_3 (n : Int) : n / 16777216 = dv 3 n := by show _ = dv 2 n / 256; rw [← dv_2]; omega
theorem dv_4 (n : Int) : n / 4294967296 = dv 4 n := by show _ = dv 3 n / 256; rw [← dv_3]; omega
theorem dv_5 (n : Int) : n / 1099511627776 = dv 5 n := by show _ = dv 4 n / 256; rw [← dv_4]; omega
theorem dv_6 (n : Int) : n / 281474976710656 = dv 6 n := by show _ = dv 5 n / 256; rw [← dv_5]; omega
theorem dv_7 (n : Int) : n / 72057594037927936 = dv 7 n := by show _ = dv 6 n / 256; rw [← dv_6]; omega
theorem dv_step (k : Nat) (n : Int) : dv k n = dv (k + 1) n * 256 + dv k n % 256 := by show _ = dv k n / 256 * 256 + _; omega
/-- eight octets, from the highest one on -/
def b8 (n : Int) : List UInt8 := [ofI (dv 7 n % 256), ofI (dv 6 n % 256), ofI (dv 5 n % 256), ofI (dv 4 n % 256), ofI (dv 3 n % 256), ofI (dv 2 n % 256), ofI (dv 1 n % 256), ofI (dv 0 n % 256)]
theorem beI_8 (a b c d e f g h : UInt8) : beI [a, b, c, d, e, f, g, h] = (((((((0 * 256 + (a.toNat : Int)) * 256 + (b.toNat : Int)) * 256 + (c.toNat : Int)) * 256 + (d.toNat : Int)) * 256 + (e.toNat : Int)) * 256 + (f.toNat : Int)) * 256 + (g.toNat : Int)) * 256 + (h.toNat : Int) := by
  rw [show [a, b, c, d, e, f, g, h] = ((((((([] ++ [a]) ++ [b]) ++ [c]) ++ [d]) ++ [e]) ++ [f]) ++ [g]) ++ [h] from rfl]
  simp only [beI_snoc, beI_nil]
theorem pw_8 (a b c d e f g h : UInt8) : pw [a, b, c, d, e, f, g, h].length = 18446744073709551616 := by
  simp only [List.length_cons, List.length_nil, pw_succ, pw_zero]; omega
theorem bt_h (x : UInt8) (l : List UInt8) : bt (x :: l) 0 = (x.toNat : Int) := rfl
theorem b8_sv {n : Int} (h0 : -9223372036854775808 ≤ n) (h1 : n ≤ 9223372036854775807) : sv (b8 n) = n := by
  have hb : beI (b8 n) = _ := beI_8 _ _ _ _ _ _ _ _
  simp only [ofI_toNat'] at hb
  have e0 : bt (b8 n) 0 = dv 7 n % 256 := by unfold b8; rw [bt_h, ofI_toNat']
  have p8 : pw (b8 n).length = 18446744073709551616 := pw_8 _ _ _ _ _ _ _ _
  have s0 := dv_step 0 n
  have s1 := dv_step 1 n
  have s2 := dv_step 2 n
  have s3 := dv_step 3 n
  have s4 := dv_step 4 n
  have s5 := dv_step 5 n
  have s6 := dv_step 6 n
  have s7 := dv_7 n
  rw [← dv_0] at s0 hb
  simp only [Nat.zero_add, Nat.reduceAdd] at s0 s1 s2 s3 s4 s5 s6
  have sn := sv_neg (l := b8 n)
  have sp := sv_pos (l := b8 n)
  rw [e0, p8, hb] at sn
  rw [e0, hb] at sp
  clear hb e0 p8
  generalize sv (b8 n) = S at *
  have r7 : -128 ≤ dv 7 n ∧ dv 7 n < 128 := by rw [← s7]; omega
  clear s7
  generalize dv 7 n = d7 at *
  generalize dv 6 n = d6 at *
  generalize dv 5 n = d5 at *
  generalize dv 4 n = d4 at *
  generalize dv 3 n = d3 at *
  generalize dv 2 n = d2 at *
  generalize dv 1 n = d1 at *
  generalize d6 % 256 = m6 at *
  generalize d5 % 256 = m5 at *
  generalize d4 % 256 = m4 at *
  generalize d3 % 256 = m3 at *
  generalize d2 % 256 = m2 at *
  generalize d1 % 256 = m1 at *
  generalize n % 256 = m0 at *
  by_cases g : 128 ≤ d7 % 256
  · rw [sn g]; omega
  · rw [sp g]; omega
theorem b8_trim {n : Int} (h0 : -9223372036854775808 ≤ n) (h1 : n ≤ 9223372036854775807) : trimI (b8 n) = intL n := by
  obtain ⟨a, b, _⟩ := trim_ok (b8 n) (by simp [b8])
  exact intL_of h0 h1 a (by rw [b, b8_sv h0 h1])
end Go.Proofs.Ytoomdaljdbennaa.Int4
/- Plain laws of unsigned numbers: digits without zeros, their contents octets. No program in sight. -/
namespace Go.Proofs.Ytoomdaljdbennaa.Int4
open Kit Cur Tlv

/-- digits without zeros at the beginning -/
def trimZ : List UInt8 → List UInt8
  | [] => []
  | x :: t => if 1 ≤ t.length ∧ (x.toNat : Int) = 0 then trimZ t else x :: t
theorem trimZ_go {l : List UInt8} (h : 2 ≤ l.length) (h0 : bt l 0 = 0) : trimZ l = trimZ (l.drop 1) := by
  match l, h with
  | x :: t, h => rw [trimZ, if_pos ⟨by simpa using h, h0⟩, List.drop_succ_cons, List.drop_zero]
theorem trimZ_stop {l : List UInt8} (h : ¬ (2 ≤ l.length ∧ bt l 0 = 0)) : trimZ l = l := by
  cases l with
  | nil => rfl
  | cons x t => rw [trimZ, if_neg (by intro hh; exact h ⟨by simp; omega, hh.2⟩)]
theorem trimZ_ok : ∀ (l : List UInt8), beI (trimZ l) = beI l ∧ (trimZ l).length ≤ l.length ∧ (1 ≤ l.length → 1 ≤ (trimZ l).length) ∧ (2 ≤ (trimZ l).length → bt (trimZ l) 0 ≠ 0) ∧ ((trimZ l).length = 0 → l = [])
  | [] => by simp [trimZ]
  | x :: t => by
    by_cases g : 2 ≤ (x :: t).length ∧ bt (x :: t) 0 = 0
    · rw [trimZ_go g.1 g.2, List.drop_succ_cons, List.drop_zero]
      obtain ⟨a, b, c, d, e⟩ := trimZ_ok t
      have ht : 1 ≤ t.length := by have := g.1; simp at this; exact this
      have hx : (x.toNat : Int) = 0 := g.2
      refine ⟨by rw [a, beI_cons, hx]; omega, by simp; omega, fun _ => c ht, d, fun h => ?_⟩
      have := c ht; omega
    · rw [trimZ_stop g]
      exact ⟨rfl, Nat.le_refl _, fun h => h, fun h h0 => g ⟨h, h0⟩, fun h => List.eq_nil_of_length_eq_zero h⟩
/-- the contents octets of a number with digits -/
def unsL (l : List UInt8) : List UInt8 := if (trimZ l).length = 0 ∨ 128 ≤ bt (trimZ l) 0 then 0 :: trimZ l else trimZ l
theorem beI_z (l : List UInt8) : beI (0 :: l) = beI l := by rw [beI_cons]; simp
theorem sv_z (l : List UInt8) : sv (0 :: l) = beI l := by rw [sv_pos (by show ¬ (128 : Int) ≤ 0; omega), beI_z]
theorem uns_ok (l : List UInt8) : validI (unsL l) = true ∧ sv (unsL l) = beI l ∧ (unsL l).length ≤ l.length + 1 ∧ 1 ≤ (unsL l).length := by
  obtain ⟨a, b, c, d, e⟩ := trimZ_ok l
  unfold unsL
  by_cases g : (trimZ l).length = 0 ∨ 128 ≤ bt (trimZ l) 0
  · rw [if_pos g]
    refine ⟨?_, by rw [sv_z, a], by simp; omega, by simp⟩
    rcases g with g | g
    · exact valid_one (by simp [g])
    · rcases (by omega : (trimZ l).length = 0 ∨ 1 ≤ (trimZ l).length) with g0 | g0
      · exact valid_one (by simp [g0])
      · refine valid_iff.2 (.inr ⟨by simp; omega, ?_, ?_⟩)
        · rw [show bt (0 :: trimZ l) 1 = bt (trimZ l) 0 from rfl]; omega
        · rw [show bt (0 :: trimZ l) 0 = 0 from rfl]; omega
  · rw [if_neg g]
    refine ⟨?_, by rw [sv_pos (by omega), a], by omega, by omega⟩
    rcases (by omega : (trimZ l).length = 1 ∨ 2 ≤ (trimZ l).length) with h | h
    · exact valid_one h
    · exact valid_iff.2 (.inr ⟨h, by have := d h; omega, by omega⟩)
/-- the reference's way to them -/
theorem uns_trim (l : List UInt8) : trimI (0 :: l) = unsL l := by
  obtain ⟨a, b, _⟩ := trim_ok (0 :: l) (by simp)
  obtain ⟨c, d, _⟩ := uns_ok l
  exact sv_inj a c (by rw [b, d, sv_z])
/-- the digits of a valid one that is not negative -/
theorem uns_valid {l : List UInt8} (hv : validI l = true) (hn : ¬ 128 ≤ bt l 0) : trimZ l = if 2 ≤ l.length ∧ bt l 0 = 0 then l.drop 1 else l := by
  by_cases g : 2 ≤ l.length ∧ bt l 0 = 0
  · rw [if_pos g, trimZ_go g.1 g.2]
    apply trimZ_stop
    intro hh
    rcases valid_iff.1 hv with h | ⟨_, v, _⟩
    · omega
    · rw [bt_drop, show 1 + 0 = 1 from rfl] at hh; have := bt_lo l 1; omega
  · rw [if_neg g]; exact trimZ_stop g
/-- what Unsigned returns -/
def unsC (l : List UInt8) : Int := if validI l = false then 6 else if 128 ≤ bt l 0 then 9 else 0
def unsD (l : List UInt8) : List UInt8 := if unsC l = 0 then trimZ l else []
theorem unsC_bad {l : List UInt8} (h : validI l = false) : unsC l = 6 ∧ unsD l = [] := by
  have e : unsC l = 6 := by unfold unsC; rw [if_pos h]
  exact ⟨e, by unfold unsD; rw [e]; simp⟩
theorem unsC_neg {l : List UInt8} (h : validI l = true) (hn : 128 ≤ bt l 0) : unsC l = 9 ∧ unsD l = [] := by
  have e : unsC l = 9 := by unfold unsC; rw [if_neg (by simp [h]), if_pos hn]
  exact ⟨e, by unfold unsD; rw [e]; simp⟩
theorem unsC_ok {l : List UInt8} (h : validI l = true) (hn : ¬ 128 ≤ bt l 0) : unsC l = 0 ∧ unsD l = trimZ l := by
  have e : unsC l = 0 := by unfold unsC; rw [if_neg (by simp [h]), if_neg hn]
  exact ⟨e, by unfold unsD; rw [e]; simp⟩
/-- the octets of digits are read as these digits -/
theorem uns_pos (l : List UInt8) : ¬ 128 ≤ bt (unsL l) 0 := by
  unfold unsL
  by_cases g : (trimZ l).length = 0 ∨ 128 ≤ bt (trimZ l) 0
  · rw [if_pos g]; show ¬ (128 : Int) ≤ 0; omega
  · rw [if_neg g]; omega
theorem uns_back (l : List UInt8) : unsC (unsL l) = 0 ∧ unsL (unsD (unsL l)) = unsL l := by
  obtain ⟨a, b, _⟩ := uns_ok l
  obtain ⟨c, d⟩ := unsC_ok a (uns_pos l)
  refine ⟨c, ?_⟩
  rw [d]
  obtain ⟨e, f, _⟩ := uns_ok (trimZ (unsL l))
  have hz := (trimZ_ok (unsL l)).1
  exact sv_inj e a (by rw [f, hz, ← sv_pos (uns_pos l)])
end Go.Proofs.Ytoomdaljdbennaa.Int4
/- Walks: slices.Concat of two slices of bytes. -/
namespace Go.Proofs.Ytoomdaljdbennaa.Cur
open Go.RowKit Kit
theorem cells2c {w : World} {b : Nat} {x0 x1 : Value} {t : TypeId} (h : w.heap[b]? = some (.cells #[x0, x1] t (0, 0))) :
    w.cell? ⟨b, 0, none⟩ = some x0 ∧ w.cell? ⟨b, 1, none⟩ = some x1 := by
  refine ⟨?_, ?_⟩ <;> (rw [cell_of_row w b _ _ _ _ h]; rfl)

set_option maxHeartbeats 2000000 in
theorem concat2_any {A0 A1 : Option Addr} {n0 n1 c0 c1 g B cc : Nat} {l0 l1 : List UInt8} {t : TypeId} (w : World) (hg : w.heap[g]? = some (.cells #[.slice A0 n0 c0, .slice A1 n1 c1] t (0, 0)))
    (h0 : Rd w B A0 n0 l0) (h1 : Rd w B A1 n1 l1) (hB : B ≤ w.heap.size) (hp : 0 < n0) (hm : n0 + n1 ≤ 140737488355328) :
    Calls Try.prog 48 #[.slice (some ⟨g, 0, none⟩) 2 cc] w fun e w' => ∃ A c, e = .returned (.slice A (n0 + n1) c) ∧ Own w' w.heap.size A (n0 + n1) c (l0 ++ l1) ∧ Below w.heap.size w w' := by
  have hgl := Blk_lt hg
  obtain ⟨q0, q1⟩ := cells2c hg
  have HG := Lib.hid hg
  have H0 := Lib.hid h0
  have H1 := Lib.hid h1
  have GR := Lib.hid (fun w => grow_any (n0 + n1) w (by omega) hm)
  rw [show ((n0 + n1 : Nat) : Int) = (n0 : Int) + (n1 : Int) from by omega] at GR
  clear hg h0 h1
  go_enter Try.func48, Try.ntmps48
  go_wp2
  go_loop [3, 11] (fun s i => (i = .int .i64 0 ∧ s = .int .i64 0) ∨ (i = .int .i64 1 ∧ s = .int .i64 (n0 : Int)) ∨ (i = .int .i64 2 ∧ s = .int .i64 ((n0 : Int) + (n1 : Int)))) (fun _ i => 2 - (intOf i).toNat)
  case atStart => exact .inl ⟨rfl, rfl⟩
  case round =>
    rcases hrel with ⟨rfl, rfl⟩ | ⟨rfl, rfl⟩ | ⟨rfl, rfl⟩
    · go_wp2
      go_round
      case rel => exact .inr (.inl ⟨rfl, rfl⟩)
      case measure => simp [intOf]
    · go_wp2
      go_round
      case rel => exact .inr (.inr ⟨rfl, rfl⟩)
      case measure => simp [intOf]
    · clear q0 q1
      go_wp2_with (go_at_call 55; refine (GR.out _).mono ?_; rintro e w1 ⟨A, c, rfl, ho, hb⟩)
      go_loopw [6, 27] (fun o i wr => ∃ (k m : Nat) (A : Option Addr) (c : Nat) (l : List UInt8), i = .int .i64 (k : Int) ∧ o = .slice A m c ∧ Own wr w.heap.size A m c l ∧ Below w.heap.size w wr ∧
        Hid ((k = 0 ∧ m = 0 ∧ l = []) ∨ (k = 1 ∧ m = n0 ∧ l = l0) ∨ (k = 2 ∧ m = n0 + n1 ∧ l = l0 ++ l1))) (fun _ i _ => 2 - (intOf i).toNat)
      case atStart => exact ⟨0, 0, A, c, [], rfl, rfl, ho, hb, Lib.hid (.inl ⟨rfl, rfl, rfl⟩)⟩
      case round =>
        clear ho hb GR
        obtain ⟨k, m, A, c, l, rfl, rfl, ho, hb, hk⟩ := hrel
        obtain ⟨q0, q1⟩ := cells2c ((hb.block g hgl).trans HG.out)
        have zb := hb.size
        rcases hk.out with ⟨rfl, rfl, rfl⟩ | ⟨rfl, rfl, rfl⟩ | ⟨rfl, rfl, rfl⟩
        · go_wp2_with (first | (at_builtin; refine app rfl (.tmp 31) (.tmp 32) rfl rfl ho rfl (H0.out.below (hb.mono hB)) (by omega) hb.size ?_; intro A' c' w' ho' hg' hb' hs'))
          go_roundw
          case rel => exact ⟨1, n0, A', c', l0, rfl, rfl, (by simpa only [Nat.zero_add, List.nil_append] using ho'), hb.trans hb', Lib.hid (.inr (.inl ⟨rfl, rfl, rfl⟩))⟩
          case measure => simp [intOf]
        · go_wp2_with (first | (at_builtin; refine app rfl (.tmp 31) (.tmp 32) rfl rfl ho rfl (H1.out.below (hb.mono hB)) (by omega) hb.size ?_; intro A' c' w' ho' hg' hb' hs'))
          go_roundw
          case rel => exact ⟨2, _, A', c', _, rfl, rfl, ho', hb.trans hb', Lib.hid (.inr (.inr ⟨rfl, rfl, rfl⟩))⟩
          case measure => simp [intOf]
        · go_wp2
          go_ret
          exact ⟨A, c, rfl, ho, hb⟩
end Go.Proofs.Ytoomdaljdbennaa.Cur
/- Walks: slices.Concat of any slices of bytes; slices.Grow by nothing. -/
namespace Go.Proofs.Ytoomdaljdbennaa.Cur
open Go.RowKit Kit

/-- sums and joins of what a function gives -/
def tot (N : Nat → Nat) : Nat → Nat
  | 0 => 0
  | k + 1 => tot N k + N k
def catF (L : Nat → List UInt8) : Nat → List UInt8
  | 0 => []
  | k + 1 => catF L k ++ L k
theorem tot_le (N : Nat → Nat) {k m : Nat} (h : k ≤ m) : tot N k ≤ tot N m := by
  induction m with
  | zero => obtain rfl : k = 0 := by omega
            exact Nat.le_refl _
  | succ m ih =>
    rcases (by omega : k = m + 1 ∨ k ≤ m) with rfl | h'
    · exact Nat.le_refl _
    · have := ih h'; simp only [tot]; omega
theorem cat_len {N : Nat → Nat} {L : Nat → List UInt8} : ∀ {m : Nat}, (∀ k, k < m → (L k).length = N k) → (catF L m).length = tot N m
  | 0, _ => rfl
  | m + 1, h => by simp only [catF, tot, List.length_append]; rw [cat_len (fun k hk => h k (by omega)), h m (by omega)]

set_option maxHeartbeats 1000000 in
theorem grow_zero (w : World) : Calls Try.prog 55 #[.slice none 0 0, .int .i64 0] w fun e w' => e = .returned (.slice none 0 0) ∧ Below w.heap.size w w' := by
  go_enter Try.func55, Try.ntmps55
  go_wp2
  go_ret
  exact ⟨rfl, (by repeat' (first | (with_reducible exact Below.refl _ _) | (with_reducible assumption) | (with_reducible refine below_drewN ?_ _) | (with_reducible refine Below.drew ?_) | (with_reducible refine Below.alloc ?_ ?_ _) | (with_reducible refine Below.setCell ?_ ?_ _) | go_size))⟩
theorem grow_all (n : Nat) (w : World) (hn : n ≤ 140737488355328) :
    Calls Try.prog 55 #[.slice none 0 0, .int .i64 (n : Int)] w fun e w' => ∃ A c, e = .returned (.slice A 0 c) ∧ Own w' w.heap.size A 0 c [] ∧ Below w.heap.size w w' := by
  rcases Nat.eq_zero_or_pos n with h | h
  · subst h
    refine (grow_zero w).mono ?_
    rintro e w' ⟨rfl, hb⟩
    exact ⟨none, 0, rfl, Own.none_ _ _, hb⟩
  · exact grow_any n w h hn
/-- what Concat returns -/
def CatP (w : World) (n : Nat) (u : List UInt8) (e : Ending) (w' : World) : Prop := ∃ A c, e = .returned (.slice A n c) ∧ Own w' w.heap.size A n c u ∧ Below w.heap.size w w'

set_option maxRecDepth 100000 in
set_option maxHeartbeats 4000000 in
theorem concatN_any {P : Option Addr} {g m cc B : Nat} (A : Nat → Option Addr) (N C : Nat → Nat) (L : Nat → List UInt8) (w : World) (hP : m = 0 ∨ P = some ⟨g, 0, none⟩) (hg : 0 < m → g < w.heap.size)
    (hc : ∀ k, k < m → w.cell? ⟨g, k, none⟩ = some (.slice (A k) (N k) (C k))) (hr : ∀ k, k < m → Rd w B (A k) (N k) (L k)) (hB : B ≤ w.heap.size) (hm : tot N m ≤ 140737488355328) (hmm : m ≤ 1000000) :
    Calls Try.prog 48 #[.slice P m cc] w (CatP w (tot N m) (catF L m)) := by
  have HC := Lib.hid hc
  have HR := Lib.hid hr
  have HG := Lib.hid hg
  have HP := Lib.hid hP
  have TS := Lib.hid (fun k => show tot N (k + 1) = tot N k + N k from rfl)
  have CS := Lib.hid (fun k => show catF L (k + 1) = catF L k ++ L k from rfl)
  have TL := Lib.hid (fun k (h : k ≤ m) => tot_le N h)
  have GR := Lib.hid (fun w => grow_all (tot N m) w hm)
  have T0 := Lib.hid (show tot N 0 = 0 from rfl)
  have C0 := Lib.hid (show catF L 0 = [] from rfl)
  clear hc hr hg hP
  go_enter Try.func48, Try.ntmps48
  go_wp2
  go_loop [3, 11] (fun s i => ∃ k : Nat, k ≤ m ∧ i = .int .i64 (k : Int) ∧ s = .int .i64 ((tot N k : Nat) : Int)) (fun _ i => m - (intOf i).toNat)
  case atStart => exact ⟨0, Nat.zero_le _, rfl, by rw [T0.out]; rfl⟩
  case round =>
    obtain ⟨k, hk, rfl, rfl⟩ := hrel
    by_cases hlt : k < m
    · obtain rfl : P = some ⟨g, 0, none⟩ := by
        rcases HP.out with h | h
        · omega
        · exact h
      have ck := HC.out k hlt
      have hgl := HG.out (by omega)
      have st := Lib.hid (TS.out k)
      have tl := TL.out (k + 1) (by omega)
      rw [TS.out k] at tl
      generalize tot N k = t at *
      generalize N k = nk at *
      generalize A k = ak at *
      generalize C k = cck at *
      go_wp2
      go_round
      case rel => exact ⟨k + 1, by omega, by go_num, by rw [st.out]; go_num⟩
      case measure => simp [intOf]; omega
    · obtain rfl : k = m := by omega
      clear TL
      go_wp2_with (go_at_call 55; refine (GR.out _).mono ?_; rintro e w1 ⟨A1, c1, rfl, ho, hb⟩)
      go_loopw [6, 27] (fun o i wr => ∃ (j : Nat) (A : Option Addr) (c : Nat), j ≤ k ∧ i = .int .i64 (j : Int) ∧ o = .slice A (tot N j) c ∧ Own wr w.heap.size A (tot N j) c (catF L j) ∧ Below w.heap.size w wr) (fun _ i _ => k - (intOf i).toNat)
      case atStart => exact ⟨0, A1, c1, Nat.zero_le _, rfl, by rw [T0.out], by rw [T0.out, C0.out]; exact ho, hb⟩
      case round =>
        clear ho hb GR
        obtain ⟨j, A2, c2, hj, rfl, rfl, ho, hb⟩ := hrel
        have zb := hb.size
        by_cases hlt2 : j < k
        · obtain rfl : P = some ⟨g, 0, none⟩ := by
            rcases HP.out with h | h
            · omega
            · exact h
          have hgl := HG.out (by omega)
          have ck : wr.cell? ⟨g, j, none⟩ = _ := (hb.cell (p := ⟨g, j, none⟩) hgl).trans (HC.out j hlt2)
          have hgl2 : g < wr.heap.size := by omega
          have rj := Lib.hid ((HR.out j hlt2).below (hb.mono hB))
          have st := Lib.hid (TS.out j)
          have sc := Lib.hid (CS.out j)
          have tl : tot N j + N j ≤ 140737488355328 := by have := tot_le N (show j + 1 ≤ k from hlt2); rw [TS.out j] at this; omega
          generalize hT : tot N j = t at *
          generalize catF L j = u at *
          generalize hN : N j = nk at *
          generalize A j = ak at *
          generalize C j = cck at *
          generalize L j = lk at *
          clear hT hN
          go_wp2_with (first | (at_builtin; refine app rfl (.tmp 31) (.tmp 32) rfl rfl ho rfl rj.out tl zb ?_; intro A' c' w' ho' hg' hb' hs'))
          go_roundw
          case rel => exact ⟨j + 1, A', c', by omega, by go_num, by rw [st.out], by rw [st.out, sc.out]; exact ho', hb.trans hb'⟩
          case measure => simp [intOf]; omega
        · obtain rfl : j = k := by omega
          go_wp2
          go_ret
          exact ⟨A2, c2, rfl, ho, hb⟩
end Go.Proofs.Ytoomdaljdbennaa.Cur
