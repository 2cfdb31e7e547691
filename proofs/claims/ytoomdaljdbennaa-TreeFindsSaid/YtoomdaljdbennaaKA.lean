/- Joined texts: PlCur, Kit, Bs, CurA, Bit, CurB, CurC, CurD, CurE, RefMin, Lit, Clone, QB, Within, Frame, Err. -/
import Derived.Test.YtoomdaljdbennaaRows
import Derived.WalkKit
import Derived.WalkSpells
import Derived.WalkLawsBesides
import Derived.Deep.QuietTactic
import Derived.BigQuiet
import Derived.Lib.Hide
import Derived.Handy
import Derived.StillTailTactics
import Derived.Maps.AppendAt
import Derived.Laws.OwnMore
import Derived.Deep.Draws
import Derived.Deep.AppendLies
import Derived.Lib.SmallJoins
import Derived.Deep.RegionLaw
import Derived.Deep.RegionWith
import Derived.Lib.QuietBelow
import Derived.ProofKit
import Derived.OpenShut
import Derived.ShutString
import Derived.ChangeOld
set_option linter.unusedSimpArgs false
set_option linter.unusedVariables false
/- Plain laws on lists of bytes: big-endian numbers, minimal digits, lexicographic comparison. No program in sight. -/
namespace Go.Proofs.Ytoomdaljdbennaa.Cur

/-- 2 to the 64, 2 to the 56: behind names -/
def W64 : Nat := 18446744073709551616
def W56 : Nat := 72057594037927936

/-- the number with big-endian digits -/
def be (l : List UInt8) : Nat := l.foldl (fun n x => n * 256 + x.toNat) 0
theorem foldl_be (l : List UInt8) : ∀ a : Nat, l.foldl (fun n x => n * 256 + x.toNat) a = a * 256 ^ l.length + be l := by
  unfold be
  induction l with
  | nil => intro a; simp
  | cons x xs ih =>
    intro a
    rw [List.foldl_cons, List.foldl_cons, ih, ih (0 * 256 + x.toNat), List.length_cons, Nat.pow_succ]
    simp only [Nat.zero_mul, Nat.zero_add, Nat.add_mul]
    rw [Nat.mul_comm (256 ^ xs.length) 256, ← Nat.mul_assoc]
    omega
theorem be_nil : be [] = 0 := rfl
theorem be_snoc (l : List UInt8) (x : UInt8) : be (l ++ [x]) = be l * 256 + x.toNat := by unfold be; rw [List.foldl_append]; rfl
theorem be_append (l m : List UInt8) : be (l ++ m) = be l * 256 ^ m.length + be m := by
  conv => lhs; unfold be
  rw [List.foldl_append]
  exact foldl_be m (be l)
theorem be_cons (x : UInt8) (l : List UInt8) : be (x :: l) = x.toNat * 256 ^ l.length + be l := by
  have := be_append [x] l
  simpa [be] using this
theorem be_zero (l : List UInt8) : be (0 :: l) = be l := by rw [be_cons]; simp
theorem be_lt (l : List UInt8) : be l < 256 ^ l.length := by
  induction l with
  | nil => simp [be]
  | cons x xs ih =>
    rw [be_cons, List.length_cons, Nat.pow_succ]
    have hx := x.toNat_lt
    have hp : 0 < 256 ^ xs.length := Nat.pow_pos (by omega)
    have : x.toNat * 256 ^ xs.length ≤ 255 * 256 ^ xs.length := Nat.mul_le_mul_right _ (by omega)
    omega
theorem be_take_le (l : List UInt8) (k : Nat) : be (l.take k) ≤ be l := by
  have h := be_append (l.take k) (l.drop k)
  rw [List.take_append_drop] at h
  have hp : 1 ≤ 256 ^ (l.drop k).length := Nat.pow_pos (by omega)
  have : be (l.take k) * 1 ≤ be (l.take k) * 256 ^ (l.drop k).length := Nat.mul_le_mul_left _ hp
  omega
theorem take_succ_get {l : List UInt8} {k : Nat} (h : k < l.length) : l.take (k + 1) = l.take k ++ [l[k]] := by
  rw [List.take_succ_eq_append_getElem h]
theorem be_step {l : List UInt8} {k : Nat} (h : k < l.length) : be (l.take (k + 1)) = be (l.take k) * 256 + (l.getD k 0).toNat := by
  rw [take_succ_get h, be_snoc]; simp [List.getD, List.getElem?_eq_getElem h]
theorem be_big {l : List UInt8} {k : Nat} (h : k < l.length) (hb : W56 ≤ be (l.take k)) : W64 ≤ be l := by
  have h1 := be_take_le l (k + 1)
  have h2 := be_step h
  unfold W56 at hb; unfold W64
  omega
theorem be_small {l : List UInt8} {k : Nat} (h : k < l.length) (hb : be (l.take k) < W56) : be (l.take (k + 1)) < W64 := by
  have h2 := be_step h
  have := (l.getD k 0).toNat_lt
  unfold W56 at hb; unfold W64
  omega

theorem be_drop {l : List UInt8} (h : 0 < l.length) (hz : (l.getD 0 0).toNat = 0) : be (l.drop 1) = be l := by
  cases l with
  | nil => simp at h
  | cons x xs =>
    have hx : x = 0 := UInt8.toNat_inj.1 (by simpa using hz)
    subst hx
    rw [be_zero]; rfl
theorem be_ge {l : List UInt8} (h : 8 < l.length) (hz : (l.getD 0 0).toNat ≠ 0) : W64 ≤ be l := by
  cases l with
  | nil => simp at h
  | cons x xs =>
    rw [be_cons]
    have h1 : 1 ≤ x.toNat := by simp at hz; omega
    have h2 : 256 ^ 8 ≤ 256 ^ xs.length := Nat.pow_le_pow_right (by omega) (by simp at h; omega)
    have h3 : 1 * 256 ^ xs.length ≤ x.toNat * 256 ^ xs.length := Nat.mul_le_mul_right _ h1
    unfold W64
    omega
theorem be_lt8 {l : List UInt8} (h : l.length ≤ 8) : be l < W64 := by
  have h1 := be_lt l
  have h2 : 256 ^ l.length ≤ 256 ^ 8 := Nat.pow_le_pow_right (by omega) h
  unfold W64
  omega
theorem be_take_lt {l : List UInt8} (h : l.length ≤ 8) (k : Nat) : be (l.take k) < W64 := by
  have := be_take_le l k
  have := be_lt8 h
  omega

/-- what Uint returns -/
def uintV (l : List UInt8) : Int := if be l < W64 then (be l : Int) else 0
def uintOk (l : List UInt8) : Bool := decide (be l < W64)
theorem uint_yes {l : List UInt8} (h : be l < W64) : uintV l = be l ∧ uintOk l = true := by unfold uintV uintOk; rw [if_pos h]; simp [h]
theorem uint_no {l : List UInt8} (h : W64 ≤ be l) : uintV l = 0 ∧ uintOk l = false := by unfold uintV uintOk; rw [if_neg (by omega)]; simp; omega

/-- the minimal big-endian digits of a number -/
def minN : Nat → Nat → List UInt8
  | 0, n => [UInt8.ofNat n]
  | f + 1, n => if n < 256 then [UInt8.ofNat n] else minN f (n / 256) ++ [UInt8.ofNat (n % 256)]
def minL (n : Nat) : List UInt8 := minN 7 n
theorem minN_small (f : Nat) {n : Nat} (h : n < 256) : minN f n = [UInt8.ofNat n] := by cases f <;> simp [minN, h]
theorem minN_more : ∀ (f : Nat) (n : Nat), n < 256 ^ (f + 1) → minN (f + 1) n = minN f n
  | 0, n, h => by rw [minN_small 1 (by simpa using h), minN_small 0 (by simpa using h)]
  | f + 1, n, h => by
    by_cases hn : n < 256
    · rw [minN_small _ hn, minN_small _ hn]
    · have hd : n / 256 < 256 ^ (f + 1) := by
        rw [Nat.div_lt_iff_lt_mul (by omega)]; rw [Nat.pow_succ] at h; exact h
      have := minN_more f (n / 256) hd
      rw [minN, if_neg hn, this]
      conv => rhs; rw [minN, if_neg hn]
theorem minL_small {n : Nat} (h : n < 256) : minL n = [UInt8.ofNat n] := minN_small 7 h
theorem minL_big {n : Nat} (h : 256 ≤ n) (hb : n < W64) : minL n = minL (n / 256) ++ [UInt8.ofNat (n % 256)] := by
  unfold minL
  have e : minN 7 (n / 256) = minN 6 (n / 256) := minN_more 6 (n / 256) (by unfold W64 at hb; omega)
  rw [e]
  conv => lhs; rw [minN, if_neg (by omega)]
theorem minN_len : ∀ (f n : Nat), 1 ≤ (minN f n).length ∧ (minN f n).length ≤ f + 1
  | 0, n => by simp [minN]
  | f + 1, n => by
    by_cases h : n < 256
    · rw [minN_small _ h]; simp
    · rw [minN, if_neg h, List.length_append]; have := minN_len f (n / 256); simp; omega
theorem minL_len (n : Nat) : 1 ≤ (minL n).length ∧ (minL n).length ≤ 8 := minN_len 7 n
theorem be_minN : ∀ (f n : Nat), n < 256 ^ (f + 1) → be (minN f n) = n
  | 0, n, h => by simp [minN, be]; omega
  | f + 1, n, h => by
    by_cases hn : n < 256
    · rw [minN_small _ hn]; simp [be]; omega
    · rw [minN, if_neg hn, be_snoc, be_minN f (n / 256) (by rw [Nat.div_lt_iff_lt_mul (by omega)]; rw [Nat.pow_succ] at h; exact h)]
      simp
      omega
theorem be_minL {n : Nat} (h : n < W64) : be (minL n) = n := be_minN 7 n (by unfold W64 at h; omega)

/-- lexicographic comparison -/
def cmpL : List UInt8 → List UInt8 → Int
  | [], [] => 0
  | [], _ :: _ => -1
  | _ :: _, [] => 1
  | x :: xs, y :: ys => if x.toNat < y.toNat then -1 else if y.toNat < x.toNat then 1 else cmpL xs ys
theorem cmpL_neg : ∀ a b : List UInt8, cmpL b a = -(cmpL a b)
  | [], [] => rfl
  | [], _ :: _ => rfl
  | _ :: _, [] => rfl
  | x :: xs, y :: ys => by
    simp only [cmpL]
    have := cmpL_neg xs ys
    split <;> split <;> first | omega | rfl | (try omega)
theorem cmpL_self : ∀ a : List UInt8, cmpL a a = 0
  | [] => rfl
  | x :: xs => by simp [cmpL, cmpL_self xs]
theorem cmpL_zero : ∀ {a b : List UInt8}, cmpL a b = 0 → a = b
  | [], [], _ => rfl
  | [], _ :: _, h => by simp [cmpL] at h
  | _ :: _, [], h => by simp [cmpL] at h
  | x :: xs, y :: ys, h => by
    simp only [cmpL] at h
    split at h
    · simp at h
    · split at h
      · simp at h
      · have hxy : x = y := UInt8.toNat_inj.1 (by omega)
        rw [hxy, cmpL_zero h]
theorem cmpL_eq {a b : List UInt8} : cmpL a b = 0 ↔ a = b := ⟨cmpL_zero, fun h => by rw [h, cmpL_self]⟩
theorem cmpL_three : ∀ a b : List UInt8, cmpL a b = -1 ∨ cmpL a b = 0 ∨ cmpL a b = 1
  | [], [] => by simp [cmpL]
  | [], _ :: _ => by simp [cmpL]
  | _ :: _, [] => by simp [cmpL]
  | x :: xs, y :: ys => by
    simp only [cmpL]
    have := cmpL_three xs ys
    split
    · simp
    · split
      · simp
      · exact this
theorem cmpL_trans : ∀ {a b c : List UInt8}, cmpL a b ≤ 0 → cmpL b c ≤ 0 → cmpL a c ≤ 0
  | [], _, [], _, _ => by simp [cmpL]
  | [], _, _ :: _, _, _ => by simp [cmpL]
  | _ :: _, [], _, h, _ => by simp [cmpL] at h
  | _ :: _, _ :: _, [], _, h => by simp [cmpL] at h
  | x :: xs, y :: ys, z :: zs, h1, h2 => by
    simp only [cmpL] at h1 h2 ⊢
    have ih := @cmpL_trans xs ys zs
    by_cases a1 : x.toNat < y.toNat <;> by_cases a2 : y.toNat < x.toNat <;> by_cases b1 : y.toNat < z.toNat <;> by_cases b2 : z.toNat < y.toNat <;>
      by_cases c1 : x.toNat < z.toNat <;> by_cases c2 : z.toNat < x.toNat <;> simp [a1, a2, b1, b2, c1, c2] at h1 h2 ⊢ <;> first | omega | exact ih h1 h2
theorem cmpL_drop {a b : List UInt8} {k : Nat} (ha : k < a.length) (hb : k < b.length) :
    cmpL (a.drop k) (b.drop k) = if (a.getD k 0).toNat < (b.getD k 0).toNat then -1 else if (b.getD k 0).toNat < (a.getD k 0).toNat then 1 else cmpL (a.drop (k + 1)) (b.drop (k + 1)) := by
  rw [List.drop_eq_getElem_cons ha, List.drop_eq_getElem_cons hb]
  simp [cmpL, List.getD, List.getElem?_eq_getElem ha, List.getElem?_eq_getElem hb]
theorem cmpL_left {a b : List UInt8} (h : b.length < a.length) : cmpL (a.drop b.length) (b.drop b.length) = 1 := by
  rw [List.drop_eq_getElem_cons h, List.drop_length]; rfl
theorem cmpL_right {a b : List UInt8} (h : a.length < b.length) : cmpL (a.drop a.length) (b.drop a.length) = -1 := by
  rw [List.drop_eq_getElem_cons h, List.drop_length]; rfl
theorem cmpL_end {a b : List UInt8} (h : a.length = b.length) : cmpL (a.drop a.length) (b.drop a.length) = 0 := by
  rw [List.drop_length, h, List.drop_length]; rfl
/-- the order, as a Bool that the law asks -/
theorem cmpL_order (a b c : List UInt8) : 0 < cmpL a b ∨ 0 < cmpL b c ∨ cmpL a c ≤ 0 := by
  by_cases h1 : 0 < cmpL a b
  · exact .inl h1
  · by_cases h2 : 0 < cmpL b c
    · exact .inr (.inl h2)
    · exact .inr (.inr (cmpL_trans (b := b) (by omega) (by omega)))
end Go.Proofs.Ytoomdaljdbennaa.Cur
/- Small laws and predicates of my own over the model, used by all walks. -/
namespace Go.Proofs.Ytoomdaljdbennaa.Kit
open Go.RowKit

theorem ret_bool {a b : Bool} (h : a = b) : Ending.returned (.bool a) = .returned (.bool b) := by rw [h]
theorem ret_int {k : IntKind} {a b : Int} (h : a = b) : Ending.returned (.int k a) = .returned (.int k b) := by rw [h]

theorem ret2 {a b c d : Value} (h : a = c) (h' : b = d) : Ending.returned (.tuple #[a, b]) = .returned (.tuple #[c, d]) := by rw [h, h']
theorem ret3 {a b c d e f : Value} (h : a = d) (h' : b = e) (h'' : c = f) : Ending.returned (.tuple #[a, b, c]) = .returned (.tuple #[d, e, f]) := by rw [h, h', h'']
theorem vint {k : IntKind} {a b : Int} (h : a = b) : Value.int k a = .int k b := by rw [h]
theorem vbool {a b : Bool} (h : a = b) : Value.bool a = .bool b := by rw [h]

/-- 'a[i]' of an array of one-cell elements by value, i in range -/
theorem run_index_arr {P : Program} (w : World) {t e : TypeId} {n : Nat} {cs : Array Value} {k ke : IntKind} {i : Int} {v : Value} {inf : TypeInfo}
    (ht : P.underlying t = some (.array n e)) (he : P.underlying e = some (.int ke)) (hi : P.info? e = some inf) (hs : inf.size = 1)
    (h0 : 0 ≤ i) (h1 : i < n) (hv : cs[i.toNat]? = some v) : (Instr.index t (.agg cs) (.int k i)).run P w = .ok v w := by
  simp [Instr.index, run_underlying ht, asIntOf, h0, h1, part, isAgg, run_underlying he, sizeOf, typeInfo, hi, hs, hv, go_sem]
/-- behind a call that leaves the old blocks alone: the old cells read as before -/
theorem bcell {W w1 : World} (hb : Below W.heap.size W w1) : (∀ b o, b < W.heap.size → w1.cell? ⟨b, o, none⟩ = W.cell? ⟨b, o, none⟩) ∧ (∀ b o, b < W.heap.size → w1.frozen? ⟨b, o, none⟩ = W.frozen? ⟨b, o, none⟩) :=
  ⟨fun b o h => hb.cell (p := ⟨b, o, none⟩) h, fun b o h => hb.frozen (p := ⟨b, o, none⟩) h⟩
/-- behind one new block and a call -/
theorem bel1 {w w1 : World} {o : Obj} (hb : Below (w.alloc o).heap.size (w.alloc o) w1) : Below w.heap.size w w1 := ((Below.refl _ _).alloc (Nat.le_refl _) _).trans (hb.mono (by simp))
/-- a block that the call has laid, behind a later call -/
theorem blk1 {w w1 : World} {o : Obj} (hb : Below (w.alloc o).heap.size (w.alloc o) w1) : w1.heap[w.heap.size]? = some o := (hb.block _ (by simp)).trans (heap_alloc_new w o)
/-- a block of two cells that the call has laid, behind a later call -/
theorem two_new {w w1 : World} {x y : Value} {t : TypeId} (hb : Below (w.alloc (.cells #[x, y] t)).heap.size (w.alloc (.cells #[x, y] t)) w1) :
    w1.cell? ⟨w.heap.size, 0, none⟩ = some x ∧ w1.cell? ⟨w.heap.size, 1, none⟩ = some y ∧ w1.frozen? ⟨w.heap.size, 0, none⟩ = false ∧ w1.frozen? ⟨w.heap.size, 1, none⟩ = false ∧
      w.heap.size < w1.heap.size ∧ Below w.heap.size w w1 := by
  obtain ⟨hcc, hff⟩ := bcell hb
  refine ⟨by rw [hcc _ _ (by simp)]; go_simp, by rw [hcc _ _ (by simp)]; go_simp, by rw [hff _ _ (by simp)]; go_simp, by rw [hff _ _ (by simp)]; go_simp, ?_,
    ((Below.refl _ _).alloc (Nat.le_refl _) _).trans (hb.mono (by simp))⟩
  have := hb.size
  simp at this
  omega
/-- a contract that leaves the world alone, for a quiet region -/
theorem quiet_same {P : Program} {f : FuncId} {args : Array Value} {w : World} {n : Nat} {v : Value}
    (h : Calls P f args (w.drewN n) fun e w' => e = .returned v ∧ w.drewN n = w') : Calls P f args (w.drewN n) fun e w'' => e = .returned v ∧ ∃ m, w'' = w.drewN m :=
  h.mono fun _ _ ⟨he, hm⟩ => ⟨he, n, hm.symm⟩
/-- a region of reads before a forced tail: the reads in the text's order, then the tail -/
theorem wp_tail {P : Program} {id : Nat} {Q : Exit → Act → World → Prop} {a : Act} {w : World} {l : List Oper} (n : Nat) (hm : P.follows .mixedOrders = true) (hB : Region.lexTailB .any l.toArray n = true)
    (h : ∀ W, Hid (W = w.drew) → (∀ a, W.cell? a = w.cell? a) → wpStill P l.toArray W (fun a' => wpList P l.toArray Q (l.drop n) a' W) (l.take n) a) : (Code.region id l.toArray true).wp P Q a w :=
  wp_region_still_tail n hm hB (h _ rfl (fun _ => rfl))
end Go.Proofs.Ytoomdaljdbennaa.Kit
/- Slices of bytes: what a slice value reads as (Rd), what the call itself owns (Own, Ow), and the laws on conversions, appends and cuts in these words. -/
namespace Go.Proofs.Ytoomdaljdbennaa.Kit
open Go.RowKit

/-- byte k of a list, 0 behind its end -/
def bt (l : List UInt8) (k : Nat) : Int := ((l.getD k 0).toNat : Int)
theorem bt_lo (l : List UInt8) (k : Nat) : 0 ≤ bt l k := by unfold bt; omega
theorem bt_hi (l : List UInt8) (k : Nat) : bt l k ≤ 255 := by unfold bt; have := (l.getD k 0).toNat_lt; omega
theorem bt_eq {l : List UInt8} {k : Nat} (h : k < l.length) : bt l k = ((l[k]).toNat : Int) := by unfold bt; simp [List.getD, List.getElem?_eq_getElem h]

/-- the cells of a list of bytes -/
def vs (l : List UInt8) : List Value := l.map fun b => .int .u8 (b.toNat : Int)
theorem vs_length (l : List UInt8) : (vs l).length = l.length := by simp [vs]
theorem vs_nil : vs [] = [] := rfl
theorem vs_append (l m : List UInt8) : vs (l ++ m) = vs l ++ vs m := by simp [vs]
theorem vs_get {l : List UInt8} {k : Nat} (h : k < l.length) : (vs l)[k]? = some (.int .u8 (bt l k)) := by
  rw [bt_eq h]; simp [vs, List.getElem?_eq_getElem h]
theorem vs_one (l : List UInt8) : ∀ u ∈ vs l, u.oneCell' = true := by
  intro u hu; simp only [vs, List.mem_map] at hu; obtain ⟨b, _, rfl⟩ := hu; rfl

theorem block_add (a : Addr) (n : Nat) : (a.add n).block = a.block := by unfold Addr.add; split <;> rfl
theorem add_add (a : Addr) (i j : Nat) : (a.add i).add j = a.add (i + j) := by
  unfold Addr.add
  by_cases hi : i = 0 <;> by_cases hj : j = 0 <;> simp [hi, hj, Nat.add_assoc]
theorem add_plain (g o k : Nat) : (⟨g, o, none⟩ : Addr).add k = ⟨g, o + k, none⟩ := by
  unfold Addr.add
  by_cases h : k = 0 <;> simp [h]

theorem Blk_lt {w : World} {g : Nat} {o : Obj} (h : w.heap[g]? = some o) : g < w.heap.size := by
  rcases Nat.lt_or_ge g w.heap.size with hlt | hge
  · exact hlt
  · rw [Array.getElem?_eq_none hge] at h; cases h

/-- A SLICE OF BYTES READS AS l in world w; its block lies below B -/
def Rd (w : World) (B : Nat) (A : Option Addr) (n : Nat) (l : List UInt8) : Prop :=
  l.length = n ∧ (0 < n → ∃ ad : Addr, A = some ad ∧ ad.block < B ∧ ∀ k, k < n → w.cell? (ad.add k) = some (.int .u8 (bt l k)))

section
variable {w w' : World} {B B' n : Nat} {A : Option Addr} {l : List UInt8}
theorem Rd.len (h : Rd w B A n l) : l.length = n := h.1
theorem Rd.nil_ : Rd w B A 0 [] := ⟨rfl, fun h => absurd h (by omega)⟩
theorem Rd.at_ {k : Nat} (h : Rd w B A n l) (hk : k < n) : ∃ ad, A = some ad ∧ ad.block < B ∧ w.cell? (ad.add k) = some (.int .u8 (bt l k)) := by
  obtain ⟨ad, e, hb, hc⟩ := h.2 (by omega)
  exact ⟨ad, e, hb, hc k hk⟩
theorem Rd.at0 (h : Rd w B A n l) (hk : 0 < n) : ∃ ad, A = some ad ∧ ad.block < B ∧ w.cell? ad = some (.int .u8 (bt l 0)) := by
  obtain ⟨ad, e, hb, hc⟩ := h.2 hk
  exact ⟨ad, e, hb, by simpa [Addr.add] using hc 0 hk⟩
theorem Rd.all_ (h : Rd w B A n l) (hn : 0 < n) : ∃ ad, A = some ad ∧ ad.block < B ∧ ∀ k, k < n → w.cell? (ad.add k) = some (.int .u8 (bt l k)) := h.2 hn
theorem Rd.keep (h : Rd w B A n l) (hk : ∀ p : Addr, p.block < B → w'.cell? p = w.cell? p) : Rd w' B A n l :=
  ⟨h.1, fun hn => by
    obtain ⟨ad, e, hb, hc⟩ := h.2 hn
    exact ⟨ad, e, hb, fun j hj => (hk _ (by rw [block_add]; exact hb)).trans (hc j hj)⟩⟩
theorem Rd.more (h : Rd w B A n l) (hB : B ≤ B') : Rd w B' A n l :=
  ⟨h.1, fun hn => by
    obtain ⟨ad, e, hb, hc⟩ := h.2 hn
    exact ⟨ad, e, by omega, hc⟩⟩
theorem Rd.below (h : Rd w B A n l) (hb : Below B w w') : Rd w' B A n l := h.keep fun _ hp => hb.cell hp
/-- behind a call: the reading in the new world -/
theorem Rd.past (h : Rd w w.heap.size A n l) (hb : Below w.heap.size w w') : Rd w' w'.heap.size A n l := (h.below hb).more hb.size
theorem Rd.drew (h : Rd w B A n l) : Rd w.drew B A n l := h
theorem Rd.drewN (h : Rd w B A n l) (k : Nat) : Rd (w.drewN k) B A n l := h
theorem Rd.alloc (h : Rd w B A n l) (hB : B ≤ w.heap.size) (o : Obj) : Rd (w.alloc o) B A n l := h.keep fun p hp => World.cell?_alloc_lt w o p (by omega)
theorem Rd.setCell (h : Rd w B A n l) {p : Addr} (hB : B ≤ p.block) (u : Value) : Rd (w.setCell p u) B A n l :=
  h.keep fun q hq => World.cell?_setCell_other w p q u (fun e => by subst e; omega)
theorem Rd.far (h : Rd w B A n l) {p : Addr} (hp : ∀ ad, A = some ad → ad.block ≠ p.block) (u : Value) : Rd (w.setCell p u) B A n l :=
  ⟨h.1, fun hn => by
    obtain ⟨ad, e, hb, hc⟩ := h.2 hn
    refine ⟨ad, e, hb, fun j hj => (World.cell?_setCell_other w p _ u (fun e' => ?_)).trans (hc j hj)⟩
    have := hp ad e
    rw [e', block_add] at this
    exact this rfl⟩
theorem Rd.cast (h : Rd w B A n l) {m : Nat} {l' : List UInt8} (hn : n = m) (hl : l = l') : Rd w B A m l' := by subst hn hl; exact h
theorem bt_drop (l : List UInt8) (i j : Nat) : bt (l.drop i) j = bt l (i + j) := by
  unfold bt; simp [List.getD, List.getElem?_drop]
theorem bt_take {l : List UInt8} {i j : Nat} (h : j < i) : bt (l.take i) j = bt l j := by
  unfold bt; simp [List.getD, List.getElem?_take, h]
/-- 's[k:m]' as the model writes its address (cap: the capacity up to which it is cut) -/
theorem Rd.cut (h : Rd w B A n l) {k m cap : Nat} (hk : k ≤ m) (hm : m ≤ n) (hc : m ≤ cap) :
    Rd w B (if cap = k then A else A.map (·.add (k * 1))) (m - k) ((l.drop k).take (m - k)) := by
  refine ⟨by rw [List.length_take, List.length_drop, h.1]; omega, fun hn => ?_⟩
  obtain ⟨ad, rfl, hb, hcell⟩ := h.2 (by omega)
  rw [if_neg (by omega)]
  refine ⟨ad.add (k * 1), rfl, by rw [block_add]; exact hb, fun j hj => ?_⟩
  rw [add_add, bt_take hj, bt_drop, Nat.mul_one]
  exact hcell _ (by omega)
/-- 's[k:m:..]', k < m -/
theorem Rd.cutMap (h : Rd w B A n l) {k m : Nat} (hm : k + m ≤ n) : Rd w B (A.map (fun x => x.add k)) m ((l.drop k).take m) := by
  refine ⟨by rw [List.length_take, List.length_drop, h.1]; omega, fun hn => ?_⟩
  obtain ⟨ad, rfl, hb, hcell⟩ := h.2 (by omega)
  refine ⟨ad.add k, rfl, by rw [block_add]; exact hb, fun j hj => ?_⟩
  rw [add_add, bt_take hj, bt_drop]
  exact hcell _ (by omega)
theorem Rd.take (h : Rd w B A n l) {m : Nat} (hm : m ≤ n) : Rd w B A m (l.take m) := by
  refine ⟨by rw [List.length_take, h.1]; omega, fun hn => ?_⟩
  obtain ⟨ad, rfl, hb, hcell⟩ := h.2 (by omega)
  exact ⟨ad, rfl, hb, fun j hj => by rw [bt_take hj]; exact hcell _ (by omega)⟩
end

/-- THE CALL OWNS the slice: nil, or the head of a row among blocks from base on; it holds l -/
def Own (w : World) (base : Nat) (A : Option Addr) (n c : Nat) (l : List UInt8) : Prop :=
  w.ownsRow base 5 1 (.slice A n c) n (vs l)
section
variable {w w' : World} {B base n c : Nat} {A : Option Addr} {l : List UInt8}
theorem Own.len (h : Own w base A n c l) : l.length = n := by have := h.1; rw [vs_length] at this; omega
theorem Own.cap (h : Own w base A n c l) : n ≤ c := by
  rcases h.2 with ⟨hv, h0⟩ | ⟨g, cap, cur, hv, _, _, hn, _⟩
  · omega
  · injection hv with _ _ hc; omega
theorem Own.capMax (h : Own w base A n c l) : c ≤ maxLen := by
  rcases h.2 with ⟨hv, h0⟩ | ⟨g, cap, cur, hv, _, _, hn, hm, _⟩
  · injection hv with _ _ hc; subst hc; exact Nat.zero_le _
  · injection hv with _ _ hc; omega
theorem Own.rd (h : Own w base A n c l) : Rd w w.heap.size A n l := by
  refine ⟨h.len, fun hn => ?_⟩
  obtain ⟨g, cap, hv, _, hlt⟩ := World.ownsRow.form h hn
  have hA : A = some ⟨g, 0, none⟩ := by injection hv
  subst hA
  refine ⟨_, rfl, hlt, fun k hk => World.ownsRow.cells h (g := g) rfl k _ (vs_get (by rw [h.len]; exact hk))⟩
theorem Own.lit (w : World) (l : List UInt8) (hb : base ≤ w.heap.size) (hm : l.length ≤ maxLen) :
    Own (w.alloc (.cells (vs l).toArray 5)) base (some ⟨w.heap.size, 0, none⟩) l.length l.length l := by
  have := World.ownsRow_lit (base := base) (e := 5) (size := 1) w (vs l).toArray l.length hb hm (by simp [vs])
  simpa [Own] using this
end

/-- string(b) of a slice that reads as l -/
theorem run_str {P : Program} {w : World} {B n c : Nat} {A : Option Addr} {l : List UInt8} (h : Rd w B A n l) (src e dst : TypeId)
    (hs : P.underlying src = some (.slice e)) (he : P.underlying e = some (.int .u8)) (hd : P.underlying dst = some .string) :
    (convert src dst (.slice A n c)).run P w = .ok (.string ⟨l.toArray⟩) w := by
  rw [run_convert_bytes_string w src dst e A n c hs he hd]
  rcases A with _ | ad
  · have hl : l = [] := by
      rcases Nat.eq_zero_or_pos n with h0 | h0
      · exact List.eq_nil_of_length_eq_zero (h.1.trans h0)
      · obtain ⟨ad, e', _⟩ := h.2 h0; cases e'
    subst hl
    simp [Conv.bytesToString]; rfl
  · have hl : (loadCells ad n).run P w = .ok ((l.map fun b : UInt8 => (b.toNat : Int)).map (Value.int .u8)).toArray w := by
      have := run_loadCells_list (P := P) w ad ((l.map fun b : UInt8 => (b.toNat : Int)).map (Value.int .u8)) (fun j v hj => by
        have hjl : j < l.length := by
          rcases Nat.lt_or_ge j l.length with h' | h'
          · exact h'
          · rw [List.getElem?_eq_none (by simpa using h')] at hj; cases hj
        obtain ⟨ad', e', _, hc⟩ := h.at_ (k := j) (by rw [← h.1]; exact hjl)
        injection e' with e'
        subst e'
        rw [hc, bt_eq hjl]
        simp [List.getElem?_eq_getElem hjl] at hj
        rw [hj])
      simpa [h.1] using this
    rw [run_bytesToString w ad n c _ hl, foldl_push_bytes]
    simp [ByteArray.empty, ByteArray.emptyWithCapacity, Function.comp_def]
    rfl

/-- two strings of bytes compared -/
theorem beq_str (l m : List UInt8) : (l == m) = decide (l = m) := by
  by_cases h : l = m
  · subst h; simp
  · simp [h]

/-- a number as a byte -/
def ofI (x : Int) : UInt8 := UInt8.ofNat x.toNat
theorem ofI_toNat {x : Int} (h0 : 0 ≤ x) (h1 : x ≤ 255) : ((ofI x).toNat : Int) = x := by
  unfold ofI
  have : (UInt8.ofNat x.toNat).toNat = x.toNat := by simp [UInt8.toNat_ofNat]; omega
  rw [this]
  omega
theorem ofI_byte (b : UInt8) : ofI (b.toNat : Int) = b := by simp [ofI]
theorem vs_ofI : ∀ (xs : List Int), (∀ x ∈ xs, 0 ≤ x ∧ x ≤ 255) → vs (xs.map ofI) = xs.map (Value.int .u8)
  | [], _ => rfl
  | x :: xs, h => by
    have h1 := h x (by simp)
    have h2 := vs_ofI xs (fun y hy => h y (by simp [hy]))
    simp only [vs, List.map_cons, List.map_map] at h2 ⊢
    rw [ofI_toNat h1.1 h1.2]
    simp only [List.cons.injEq, true_and]
    simpa using h2
/-- a slice literal of bytes, just made -/
theorem Rd.lits (w : World) (xs : List Int) (h : ∀ x ∈ xs, 0 ≤ x ∧ x ≤ 255) :
    Rd (w.alloc (.cells (xs.map (Value.int .u8)).toArray 5)) (w.heap.size + 1) (some ⟨w.heap.size, 0, none⟩) xs.length (xs.map ofI) := by
  have ho := Own.lit (base := 0) w (xs.map ofI) (Nat.zero_le _)
  refine ⟨by simp, fun _ => ⟨_, rfl, Nat.lt_succ_self _, fun k hk => ?_⟩⟩
  rw [add_plain, Nat.zero_add]
  have hx : (vs (xs.map ofI))[k]? = some (.int .u8 (bt (xs.map ofI) k)) := vs_get (by simpa using hk)
  rw [vs_ofI xs h] at hx
  rw [cell_of_row _ w.heap.size k _ _ _ (heap_alloc_new w _)]
  simpa using hx

theorem info8 : (Try.prog.info? 5).map (fun i => (i.zero, i.size, i.bytes)) = some (some (.int .u8 0), 1, 1) := by kernel_rfl

/-- append(out, x...) where the call owns out and x reads as l2 -/
theorem run_app {w : World} {base n c : Nat} {A : Option Addr} {l : List UInt8} (hown : Own w base A n c l) {B m c2 : Nat} {A2 : Option Addr} {l2 : List UInt8} (hr : Rd w B A2 m l2)
    (hlim : n + m ≤ 140737488355328) (hbase : base ≤ w.heap.size) (ty : TypeId) :
    ∃ A' c' w', (Builtin.append_ #[22, 22] ty #[.slice A n c, .slice A2 m c2]).run Try.prog w = .ok (.slice A' (n + m) c') w' ∧ Own w' base A' (n + m) c' (l ++ l2) ∧
      w.grownBy w' (Value.slice A n c).ownBlock ∧ Below base w w' ∧ ((Value.slice A' (n + m) c').ownBlock = (Value.slice A n c).ownBlock ∨ (Value.slice A' (n + m) c').ownBlock = some w.heap.size) := by
  obtain ⟨i, hi, hz, hsz, hby⟩ := info_parts info8
  have hb63 : n + m ≤ maxLen := by unfold maxLen; omega
  have hbel : ∀ w' : World, w.grownBy w' (Value.slice A n c).ownBlock → Below base w w' := fun w' hg => (Below.refl _ _).grown hg hbase (fun k hk => by
    rcases hown.2 with ⟨hv, _⟩ | ⟨g, cap, cur, hv, hg', _⟩
    · injection hv with h1; subst h1; cases hk
    · injection hv with h1; subst h1; simp [Value.ownBlock] at hk; omega)
  rcases A2 with _ | ad
  · have hm : m = 0 := by
      rcases Nat.eq_zero_or_pos m with h0 | h0
      · exact h0
      · obtain ⟨ad, h, _⟩ := hr.2 h0; cases h
    subst hm
    have hl : l2 = [] := List.eq_nil_of_length_eq_zero hr.1
    subst hl
    refine ⟨A, c, w, ?_, by simpa using hown, World.grownBy.refl w _, Below.refl _ _, .inl rfl⟩
    rcases hown.2 with ⟨hv, h0⟩ | ⟨g, cap, cur, hv, _, _, hnc, _⟩
    · injection hv with e1 e2 e3
      subst e1 e3 h0
      simp [Builtin.append_, run_underlying Try.underlying22, sizeOf, typeInfo, hi, Builtin.lenOf, Builtin.firstCells]
    · injection hv with e1 e2 e3
      subst e1 e3
      simp [Builtin.append_, run_underlying Try.underlying22, sizeOf, typeInfo, hi, Builtin.lenOf, Builtin.firstCells, hnc, storeCells]
  · have hcells : ∀ j u, (vs l2)[j]? = some u → w.cell? (ad.add j) = some u := by
      intro j u hu
      have hj : j < l2.length := by
        rcases Nat.lt_or_ge j l2.length with h | h
        · exact h
        · rw [List.getElem?_eq_none (by rw [vs_length]; exact h)] at hu; cases hu
      obtain ⟨ad', h, _, hc⟩ := hr.at_ (k := j) (by rw [← hr.1]; exact hj)
      injection h with h
      subst h
      rw [hc, ← vs_get hj, hu]
    obtain ⟨v', w', hrun, h2, h3, _, h5⟩ := run_append_own_at (P := Try.prog) w base 22 ty 5 i (.int .u8 0) 1 1 Try.underlying22 hi hz hsz hby rfl (by omega) (.slice A n c) n (vs l) hown ad m c2 (vs l2)
      (by rw [vs_length, hr.1]; omega) hcells (vs_one l2) hb63 (by omega) hbase
    rcases Joins.ownsRow_forms h2 with ⟨hv, h0⟩ | ⟨g, cap, hv⟩
    · subst hv
      have hn : n = 0 := by omega
      have hm : m = 0 := by omega
      subst hn; subst hm
      exact ⟨none, 0, w', hrun, by rw [Own, vs_append]; exact h2, h3, hbel _ h3, h5⟩
    · subst hv
      exact ⟨_, cap, w', hrun, by rw [Own, vs_append]; exact h2, h3, hbel _ h3, h5⟩

theorem wp_app {o : Oper} {a : Act} {w : World} {K : Act → World → Prop} {Q : Exit → Act → World → Prop} (s x : Operand)
    (ho : o.op = .call { callee := .builtin .append, args := #[s, x], argTypes := #[22, 22] })
    {base n c : Nat} {A : Option Addr} {l : List UInt8} (hs : a.eval s = .slice A n c) (hown : Own w base A n c l)
    {B m c2 : Nat} {A2 : Option Addr} {l2 : List UInt8} (hx : a.eval x = .slice A2 m c2) (hr : Rd w B A2 m l2)
    (hlim : n + m ≤ 140737488355328) (hbase : base ≤ w.heap.size)
    (h : ∀ A' c' w', Own w' base A' (n + m) c' (l ++ l2) → w.grownBy w' (Value.slice A n c).ownBlock → Below base w w' →
      ((Value.slice A' (n + m) c').ownBlock = (Value.slice A n c).ownBlock ∨ (Value.slice A' (n + m) c').ownBlock = some w.heap.size) → K (a.put o.dst (.slice A' (n + m) c')) w') : o.wp Try.prog a w K Q := by
  obtain ⟨A', c', w', hrun, h2, h3, h4, h5⟩ := run_app hown hr (c2 := c2) hlim hbase o.type
  unfold Oper.wp execOp
  simp only [ho, resolve, invoke, builtin, Sem.run_bind, Sem.run_pure, Result.andThen_ok, List.map_toArray, List.map_cons, List.map_nil, hs, hx, hrun]
  exact h A' c' w' h2 h3 h4 h5

theorem app {ops : Array Oper} {rest : List Oper} {o : Oper} {a : Act} {w : World} {Q : Exit → Act → World → Prop} (hgd : o.guard = none) (s x : Operand)
    (ho : o.op = .call { callee := .builtin .append, args := #[s, x], argTypes := #[22, 22] })
    {base n c : Nat} {A : Option Addr} {l : List UInt8} (hs : a.eval s = .slice A n c) (hown : Own w base A n c l)
    {B m c2 : Nat} {A2 : Option Addr} {l2 : List UInt8} (hx : a.eval x = .slice A2 m c2) (hr : Rd w B A2 m l2)
    (hlim : n + m ≤ 140737488355328) (hbase : base ≤ w.heap.size)
    (h : ∀ A' c' w', Own w' base A' (n + m) c' (l ++ l2) → w.grownBy w' (Value.slice A n c).ownBlock → Below base w w' →
      ((Value.slice A' (n + m) c').ownBlock = (Value.slice A n c).ownBlock ∨ (Value.slice A' (n + m) c').ownBlock = some w.heap.size) → wpList Try.prog ops Q rest (a.put o.dst (.slice A' (n + m) c')) w') :
    wpList Try.prog ops Q (o :: rest) a w :=
  wpList_plain hgd fun _ hK => wp_app s x ho hs hown hx hr hlim hbase fun A' c' w' h2 h3 h4 h5 => hK _ _ (h A' c' w' h2 h3 h4 h5)
theorem Own.alloc {w : World} {base n c : Nat} {A : Option Addr} {l : List UInt8} (h : Own w base A n c l) (o : Obj) : Own (w.alloc o) base A n c l := World.ownsRow.alloc h o
theorem Own.drew {w : World} {base n c : Nat} {A : Option Addr} {l : List UInt8} (h : Own w base A n c l) : Own w.drew base A n c l := h
theorem Own.drewN {w : World} {base n c : Nat} {A : Option Addr} {l : List UInt8} (h : Own w base A n c l) (k : Nat) : Own (w.drewN k) base A n c l := h
theorem Own.mono {w : World} {base base' n c : Nat} {A : Option Addr} {l : List UInt8} (h : Own w base A n c l) (hb : base' ≤ base) : Own w base' A n c l := by
  rcases h with ⟨h1, h2⟩
  refine ⟨h1, ?_⟩
  rcases h2 with h | ⟨g, cap, cur, hv, hg, hr⟩
  · exact .inl h
  · exact .inr ⟨g, cap, cur, hv, by omega, hr⟩
/-- what a call owned before another call that leaves all older blocks alone -/
theorem Own.below {w w' : World} {base n c : Nat} {A : Option Addr} {l : List UInt8} (h : Own w base A n c l) (hb : Below w.heap.size w w') : Own w' base A n c l := by
  rcases h with ⟨h1, h2⟩
  refine ⟨h1, ?_⟩
  rcases h2 with h | ⟨g, cap, cur, hv, hg, hr, hrest⟩
  · exact .inl h
  · refine .inr ⟨g, cap, cur, hv, hg, ?_, hrest⟩
    rw [hb.block g (Blk_lt hr)]
    exact hr
theorem Own.none_ (w : World) (base : Nat) : Own w base none 0 0 [] := World.ownsRow_nil _ _ _ _

theorem Own.cellAt {w : World} {base n c g : Nat} {l : List UInt8} (h : Own w base (some ⟨g, 0, none⟩) n c l) {k : Nat} (hk : k < n) : w.cell? ⟨g, k, none⟩ = some (.int .u8 (bt l k)) := by
  rw [World.ownsRow.cellAt h k (by omega)]
  exact vs_get (by rw [h.len]; exact hk)
theorem Own.frozenAt {w : World} {base n c g : Nat} {l : List UInt8} (h : Own w base (some ⟨g, 0, none⟩) n c l) (k : Nat) : w.frozen? ⟨g, k, none⟩ = false := World.ownsRow.frozenAt h k
theorem Own.stored {w : World} {base n c g : Nat} {l : List UInt8} (h : Own w base (some ⟨g, 0, none⟩) n c l) (k : Nat) {x : Int} (h0 : 0 ≤ x) (h1 : x ≤ 255) :
    Own (w.setCell ⟨g, k, none⟩ (.int .u8 x)) base (some ⟨g, 0, none⟩) n c (l.set k (ofI x)) := by
  have := (World.ownsRow.stored h k (.int .u8 x)).1
  unfold Own
  have e : vs (l.set k (ofI x)) = (vs l).set k (.int .u8 x) := by simp [vs, ofI_toNat h0 h1]
  rw [e]; exact this
theorem Own.lt {w : World} {base n c g : Nat} {l : List UInt8} (h : Own w base (some ⟨g, 0, none⟩) n c l) : base ≤ g ∧ g < w.heap.size := by
  rcases h.2 with ⟨h', _⟩ | ⟨g', cap', cur, h', hb, hg, _⟩
  · simp at h'
  · simp only [Value.slice.injEq, Option.some.injEq, Addr.mk.injEq, and_true, true_and] at h'
    obtain ⟨rfl, rfl⟩ := h'
    exact ⟨hb, Blk_lt hg⟩
theorem Own.shape {w : World} {base n c : Nat} {A : Option Addr} {l : List UInt8} (h : Own w base A n c l) (hn : 0 < n) : ∃ g, A = some ⟨g, 0, none⟩ := by
  obtain ⟨g, cap, hv⟩ := Joins.ownsRow_form h hn
  injection hv with h1
  exact ⟨g, h1⟩
theorem grown_set {w wr : World} {g : Nat} (h : w.grownBy wr (some g)) (k : Nat) (u : Value) : w.grownBy (wr.setCell ⟨g, k, none⟩ u) (some g) :=
  ⟨h.os, h.tape, h.output, by simpa [World.setCell] using h.size, fun i hi hne => (Below.heap_setCell wr ⟨g, k, none⟩ u i (fun e => hne (by rw [e]))).trans (h.block i hi hne)⟩
theorem grown_drew {w wr : World} {r : Option Nat} (h : w.grownBy wr r) : w.grownBy wr.drew r := ⟨h.os, h.tape, h.output, h.size, h.block⟩
theorem grown_drewN {w wr : World} {r : Option Nat} (h : w.grownBy wr r) (k : Nat) : w.grownBy (wr.drewN k) r := ⟨h.os, h.tape, h.output, h.size, h.block⟩
theorem ofI_bt (l : List UInt8) (k : Nat) : ofI (bt l k) = l.getD k 0 := by unfold bt; exact ofI_byte _
theorem bt_set {l : List UInt8} {k i : Nat} {x : Int} (h0 : 0 ≤ x) (h1 : x ≤ 255) (hk : k < l.length) : bt (l.set k (ofI x)) i = if k = i then x else bt l i := by
  unfold bt
  by_cases h : k = i
  · subst h
    simp [List.getD, List.getElem?_set, hk, ofI_toNat h0 h1]
  · rw [if_neg h]; simp [List.getD, List.getElem?_set, h]
theorem bt_ext {l m : List UInt8} (hl : l.length = m.length) (h : ∀ k, k < l.length → bt l k = bt m k) : l = m := by
  apply List.ext_getElem hl
  intro i h1 h2
  have := h i h1
  rw [bt_eq h1, bt_eq h2] at this
  exact UInt8.toNat_inj.1 (by omega)
theorem bt_reverse {l : List UInt8} {k : Nat} (h : k < l.length) : bt l.reverse k = bt l (l.length - 1 - k) := by
  rw [bt_eq (by simpa using h), bt_eq (by omega)]
  simp

theorem in1 {x : Int} (h0 : 0 ≤ x) (h1 : x ≤ 255) : ∀ y ∈ [x], 0 ≤ y ∧ y ≤ 255 := by intro y hy; simp at hy; subst hy; exact ⟨h0, h1⟩
theorem in2 {x y : Int} (h0 : 0 ≤ x) (h1 : x ≤ 255) (h2 : 0 ≤ y) (h3 : y ≤ 255) : ∀ z ∈ [x, y], 0 ≤ z ∧ z ≤ 255 := by
  intro z hz; simp at hz; rcases hz with rfl | rfl <;> omega
/-- append(out, x, y ..) : the bytes xs have just been laid in a block of their own -/
theorem appL (xs : List Int) {ops : Array Oper} {rest : List Oper} {o : Oper} {a : Act} {w : World} {Q : Exit → Act → World → Prop} (hgd : o.guard = none) (s x : Operand)
    (ho : o.op = .call { callee := .builtin .append, args := #[s, x], argTypes := #[22, 22] })
    {base n c : Nat} {A : Option Addr} {l : List UInt8} (hs : a.eval s = .slice A n c) (hown : Own w base A n c l)
    {c2 : Nat} (hx : a.eval x = .slice (some ⟨w.heap.size, 0, none⟩) xs.length c2) (hxs : ∀ x ∈ xs, 0 ≤ x ∧ x ≤ 255)
    (hlim : n + xs.length ≤ 140737488355328) (hbase : base ≤ w.heap.size)
    (h : ∀ A' c' w', Own w' base A' (n + xs.length) c' (l ++ xs.map ofI) → (w.alloc (.cells (xs.map (Value.int .u8)).toArray 5)).grownBy w' (Value.slice A n c).ownBlock → Below base w w' →
      ((Value.slice A' (n + xs.length) c').ownBlock = (Value.slice A n c).ownBlock ∨ (Value.slice A' (n + xs.length) c').ownBlock = some (w.heap.size + 1)) → wpList Try.prog ops Q rest (a.put o.dst (.slice A' (n + xs.length) c')) w') :
    wpList Try.prog ops Q (o :: rest) a (w.alloc (.cells (xs.map (Value.int .u8)).toArray 5)) :=
  app hgd s x ho hs (hown.alloc _) hx (Rd.lits w xs hxs) hlim (by simp; omega) fun A' c' w' h2 h3 h4 h5 =>
    h A' c' w' h2 h3 (((Below.refl _ _).alloc hbase _).trans h4) (by simpa using h5)

/-- a store into a block that is older than the slice's -/
theorem Own.setOld {w : World} {base n c : Nat} {A : Option Addr} {l : List UInt8} (h : Own w base A n c l) {p : Addr} (hp : p.block < base) (u : Value) : Own (w.setCell p u) base A n c l :=
  ownsRow_setCell_below h hp u
theorem grown_of_below {w w1 : World} (h : Below w.heap.size w w1) (row : Option Nat) : w.grownBy w1 row := ⟨h.os, h.tape, h.output, h.size, fun i hi _ => h.block i hi⟩
theorem grown_setNew {w wr : World} {row : Option Nat} (h : w.grownBy wr row) {p : Addr} (hp : w.heap.size ≤ p.block) (u : Value) : w.grownBy (wr.setCell p u) row :=
  ⟨h.os, h.tape, h.output, by simpa [World.setCell] using h.size, fun i hi hne => (Below.heap_setCell wr p u i (fun e => by omega)).trans (h.block i hi hne)⟩
theorem grown_alloc {w wr : World} {row : Option Nat} (h : w.grownBy wr row) (o : Obj) : w.grownBy (wr.alloc o) row :=
  ⟨h.os, h.tape, h.output, Nat.le_trans h.size (by simp), fun i hi hne => (Below.heap_alloc wr o i (Nat.lt_of_lt_of_le hi h.size)).trans (h.block i hi hne)⟩

/-- one byte more of a list's piece -/
theorem take_more {l : List UInt8} {p k : Nat} (h : p + k < l.length) : (l.drop p).take (k + 1) = (l.drop p).take k ++ [bt l (p + k)].map ofI := by
  have hk : k < (l.drop p).length := by rw [List.length_drop]; omega
  rw [List.take_succ_eq_append_getElem hk, List.map_singleton, ofI_bt]
  simp [List.getElem_drop, List.getD, List.getElem?_eq_getElem h]
/-- an old slice's cell behind changes to one other block -/
theorem Rd.grownAt {w wr : World} {n k : Nat} {A : Option Addr} {l : List UInt8} {g : Nat} (h : Rd w w.heap.size A n l) (hg : w.grownBy wr (some g)) (hA : ∀ ad, A = some ad → ad.block ≠ g) (hk : k < n) :
    ∃ ad, A = some ad ∧ ad.block < w.heap.size ∧ wr.cell? (ad.add k) = some (.int .u8 (bt l k)) := by
  obtain ⟨ad, e, hb, hc⟩ := h.at_ hk
  refine ⟨ad, e, hb, ?_⟩
  have : wr.heap[(ad.add k).block]? = w.heap[(ad.add k).block]? := by
    rw [block_add]; exact hg.block _ hb (fun e' => hA ad e (by injection e'))
  exact (World.cell?_of_block this).trans hc

theorem grown_below {w wr w2 : World} {r : Option Nat} {B : Nat} (h : w.grownBy wr r) (hb : Below B wr w2) (hB : w.heap.size ≤ B) : w.grownBy w2 r :=
  ⟨hb.os.trans h.os, hb.tape.trans h.tape, hb.output.trans h.output, Nat.le_trans h.size hb.size, fun i hi hne => (hb.block i (by omega)).trans (h.block i hi hne)⟩
theorem grown_trans {w wr w2 : World} {r : Option Nat} (h : w.grownBy wr r) (h2 : wr.grownBy w2 r) : w.grownBy w2 r :=
  ⟨h2.os.trans h.os, h2.tape.trans h.tape, h2.output.trans h.output, Nat.le_trans h.size h2.size, fun i hi hne => (h2.block i (Nat.lt_of_lt_of_le hi h.size) hne).trans (h.block i hi hne)⟩

/-- append(out, x...) inside a region that draws its order -/
theorem step_app {ops : Array Oper} {o : Oper} {a : Act} {w : World} {K : Act → World → Prop} {Q : Exit → Act → World → Prop} {E : Prop} (hgd : o.guard = none) (s x : Operand)
    (ho : o.op = .call { callee := .builtin .append, args := #[s, x], argTypes := #[22, 22] })
    {base n c : Nat} {A : Option Addr} {l : List UInt8} (hs : a.eval s = .slice A n c) (hown : Own w base A n c l)
    {B m c2 : Nat} {A2 : Option Addr} {l2 : List UInt8} (hx : a.eval x = .slice A2 m c2) (hr : Rd w B A2 m l2)
    (hlim : n + m ≤ 140737488355328) (hbase : base ≤ w.heap.size)
    (h : ∀ A' c' w', Own w' base A' (n + m) c' (l ++ l2) → w.grownBy w' (Value.slice A n c).ownBlock → Below base w w' →
      ((Value.slice A' (n + m) c').ownBlock = (Value.slice A n c).ownBlock ∨ (Value.slice A' (n + m) c').ownBlock = some w.heap.size) → K (a.put o.dst (.slice A' (n + m) c')) w') :
    if Region.wanted o (yielded ops a.tmps) = true then Oper.wp Try.prog o a w K Q else E := by
  have hw : Region.wanted o (yielded ops a.tmps) = true := by simp [Region.wanted, hgd]
  rw [if_pos hw]
  exact wp_app s x ho hs hown hx hr hlim hbase h

theorem own_ne {w : World} {base n c : Nat} {A : Option Addr} {l : List UInt8} {g : Nat} {cs : Array Value} {t : TypeId} (h : Own w base A n c l) (hg : w.heap[g]? = some (.cells cs t (0, 0))) (ht : t ≠ 5) :
    (Value.slice A n c).ownBlock ≠ some g := by
  intro he
  rcases h.2 with ⟨hv, _⟩ | ⟨g', cap, cur, hv, _, hh, _⟩
  · rw [hv] at he; cases he
  · rw [hv] at he
    have : g' = g := by simpa [Value.ownBlock] using he
    subst this
    rw [hg] at hh
    injection hh with hh
    injection hh with _ h2
    exact ht h2
theorem Own.grown {w w' : World} {base n c : Nat} {A : Option Addr} {l : List UInt8} {r : Option Nat} (h : Own w base A n c l) (hg : w.grownBy w' r) (hne : ∀ k, r = some k → (Value.slice A n c).ownBlock ≠ some k) : Own w' base A n c l := by
  rcases h with ⟨h1, h2⟩
  refine ⟨h1, ?_⟩
  rcases h2 with h | ⟨g, cap, cur, hv, hb, hr, hrest⟩
  · exact .inl h
  · refine .inr ⟨g, cap, cur, hv, hb, ?_, hrest⟩
    rw [hg.block g (Blk_lt hr) (fun e => hne g e.symm (by rw [hv]; simp [Value.ownBlock]))]
    exact hr
theorem Own.blk {w : World} {base n c k : Nat} {A : Option Addr} {l : List UInt8} (h : Own w base A n c l) (hk : (Value.slice A n c).ownBlock = some k) : base ≤ k ∧ k < w.heap.size := by
  rcases h.2 with ⟨hv, _⟩ | ⟨g, cap, cur, hv, hb, hr, hrest⟩
  · rw [hv] at hk; cases hk
  · rw [hv] at hk
    have : g = k := by simpa [Value.ownBlock] using hk
    subst this
    exact ⟨hb, Blk_lt hr⟩

/-- behind a call that changes one old block alone -/
theorem gcell {W w1 : World} {g : Nat} (hg : W.grownBy w1 (some g)) : (∀ b o, b < W.heap.size → b ≠ g → w1.cell? ⟨b, o, none⟩ = W.cell? ⟨b, o, none⟩) ∧ (∀ b o, b < W.heap.size → b ≠ g → w1.frozen? ⟨b, o, none⟩ = W.frozen? ⟨b, o, none⟩) :=
  ⟨fun b o h hne => World.cell?_of_block (hg.block b h (fun e => hne (by injection e))), fun b o h hne => World.frozen?_of_block (hg.block b h (fun e => hne (by injection e)))⟩

/-- a slice literal just made, in the walk's spelling -/
theorem Rd.litE (X : World) (xs : List Int) (l : List UInt8) (S n : Nat) (hS : X.heap.size = S) (hxs : ∀ x ∈ xs, 0 ≤ x ∧ x ≤ 255) (hl : xs.map ofI = l) (hn : xs.length = n) :
    Rd (X.alloc (.cells (xs.map (Value.int .u8)).toArray 5)) (S + 1) (some ⟨S, 0, none⟩) n l := by
  subst hS hl hn; exact Rd.lits X xs hxs
end Go.Proofs.Ytoomdaljdbennaa.Kit
/- Walks over the package cursor and its reference: byte equality, numbers, comparison. -/
namespace Go.Proofs.Ytoomdaljdbennaa.Cur
open Go.RowKit Kit

/-- two lists of bytes are the same -/
def eqB (l m : List UInt8) : Bool := decide (l = m)
theorem eqB_self (l : List UInt8) : eqB l l = true := by simp [eqB]

set_option maxHeartbeats 400000 in
theorem bytes_any (A1 A2 : Option Addr) (n1 c1 n2 c2 : Nat) (l1 l2 : List UInt8) (w : World) {B1 B2 : Nat} (h1 : Rd w B1 A1 n1 l1) (h2 : Rd w B2 A2 n2 l2) :
    Calls Try.prog 18 #[.slice A1 n1 c1, .slice A2 n2 c2] w fun e w' => e = .returned (.bool (eqB l1 l2)) ∧ w = w' := by
  have k1 := run_str (P := Try.prog) (c := c1) h1 22 5 9 Try.underlying22 Try.underlying5 Try.underlying9
  have k2 := run_str (P := Try.prog) (c := c2) h2 22 5 9 Try.underlying22 Try.underlying5 Try.underlying9
  clear h1 h2
  go_enter Try.func18, Try.ntmps18
  go_wp2
  go_ret
  exact ⟨ret_bool (by simp [eqB, beq_str]), rfl⟩

theorem bt_nat (l : List UInt8) (k : Nat) : ((l.getD k 0).toNat : Int) = bt l k := rfl
theorem cmp_step {a b : List UInt8} {k : Nat} (ha : k < a.length) (hb : k < b.length) :
    cmpL (a.drop k) (b.drop k) = if bt a k < bt b k then -1 else if bt b k < bt a k then 1 else cmpL (a.drop (k + 1)) (b.drop (k + 1)) := by
  rw [cmpL_drop ha hb]
  unfold bt
  simp only [Int.ofNat_lt]

end Go.Proofs.Ytoomdaljdbennaa.Cur
/- Small laws on bit operations, in the walk's spelling. -/
namespace Go.Proofs.Ytoomdaljdbennaa.Kit
open Go.RowKit
theorem u64_shl8_or (v : Nat) (b : Int) (hv : v < 72057594037927936) (h0 : 0 ≤ b) (h1 : b ≤ 255) :
    bits .or .u64 ((v : Int) * 256) b = (v : Int) * 256 + b := by
  have e : ((v : Int) * 256) = ((v * 256 : Nat) : Int) := by omega
  obtain ⟨c, rfl⟩ := Int.eq_ofNat_of_zero_le h0
  rw [e, u64_or_nat (v * 256) c (by omega) (by omega), nat_join 8 (v * 256) c (by omega) (by omega)]
  omega
end Go.Proofs.Ytoomdaljdbennaa.Kit
/- Walks over the reference of the package cursor: comparison, numbers. -/
namespace Go.Proofs.Ytoomdaljdbennaa.Cur
open Go.RowKit Kit

set_option maxHeartbeats 1000000 in
theorem refcompare_any (A1 A2 : Option Addr) (n1 c1 n2 c2 : Nat) (l1 l2 : List UInt8) (w : World) {B1 B2 : Nat} (h1 : Rd w B1 A1 n1 l1) (h2 : Rd w B2 A2 n2 l2) (m1 : n1 ≤ maxLen) (m2 : n2 ≤ maxLen) :
    Calls Try.prog 61 #[.slice A1 n1 c1, .slice A2 n2 c2] w fun e w' => e = .returned (.int .i64 (cmpL l1 l2)) ∧ ∃ m, w' = w.drewN m := by
  have L1 := Lib.hid h1.len
  have L2 := Lib.hid h2.len
  unfold maxLen at m1 m2
  go_enter Try.func61, Try.ntmps61
  go_wp2
  go_loopw [5] (fun i wr => ∃ k : Nat, k ≤ n1 ∧ k ≤ n2 ∧ i = .int .i64 k ∧ (∃ m, wr = w.drewN m) ∧ Hid (cmpL (l1.drop k) (l2.drop k) = cmpL l1 l2)) (fun i _ => n1 - (intOf i).toNat)
  case atStart => exact ⟨0, Nat.zero_le _, Nat.zero_le _, rfl, (by first | exact ⟨0, rfl⟩ | exact ⟨_, rfl⟩ | (simp only [World.drewN_drewN]; exact ⟨_, rfl⟩)), Lib.hid (by simp)⟩
  case round =>
    obtain ⟨k, hk1, hk2, rfl, ⟨m, rfl⟩, HC⟩ := hrel
    by_cases hlt : k < n1
    · by_cases hlt2 : k < n2
      · obtain ⟨a1, rfl, _, hc1⟩ := h1.at_ hlt
        obtain ⟨a2, rfl, _, hc2⟩ := h2.at_ hlt2
        have b1 := bt_lo l1 k
        have b2 := bt_hi l1 k
        have b3 := bt_lo l2 k
        have b4 := bt_hi l2 k
        have S := Lib.hid (cmp_step (a := l1) (b := l2) (k := k) (by rw [L1.out]; exact hlt) (by rw [L2.out]; exact hlt2))
        by_cases t1 : bt l1 k < bt l2 k
        · go_wp2
          go_quiet (fail)
          go_wp2
          go_ret
          exact ⟨ret_int (by rw [← HC.out, S.out, if_pos (by omega)]), (by first | exact ⟨0, rfl⟩ | exact ⟨_, rfl⟩ | (simp only [World.drewN_drewN]; exact ⟨_, rfl⟩))⟩
        · by_cases t2 : bt l2 k < bt l1 k
          · go_wp2
            go_quiet (fail)
            go_wp2
            go_quiet (fail)
            go_wp2
            go_ret
            exact ⟨ret_int (by rw [← HC.out, S.out, if_neg (by omega), if_pos (by omega)]), (by first | exact ⟨0, rfl⟩ | exact ⟨_, rfl⟩ | (simp only [World.drewN_drewN]; exact ⟨_, rfl⟩))⟩
          · go_wp2
            go_quiet (fail)
            go_wp2
            go_quiet (fail)
            go_wp2
            go_roundw
            case rel => exact ⟨k + 1, by omega, by omega, by go_num, (by first | exact ⟨0, rfl⟩ | exact ⟨_, rfl⟩ | (simp only [World.drewN_drewN]; exact ⟨_, rfl⟩)), Lib.hid (by rw [← HC.out, S.out, if_neg (by omega), if_neg (by omega)])⟩
            case measure => simp [intOf]; omega
      · have F := Lib.hid (show cmpL l1 l2 = 1 from by
          have e : k = l2.length := by rw [L2.out]; omega
          rw [← HC.out, e]; exact cmpL_left (by rw [L1.out, L2.out]; omega))
        go_wp2
        go_ret
        exact ⟨ret_int F.out.symm, (by first | exact ⟨0, rfl⟩ | exact ⟨_, rfl⟩ | (simp only [World.drewN_drewN]; exact ⟨_, rfl⟩))⟩
    · have e : k = l1.length := by rw [L1.out]; omega
      have C := HC.out
      by_cases hl : n1 < n2
      · have F := Lib.hid (show cmpL l1 l2 = -1 from by rw [← C, e]; exact cmpL_right (by rw [L1.out, L2.out]; omega))
        clear C e
        go_wp2
        go_ret
        exact ⟨ret_int F.out.symm, (by first | exact ⟨0, rfl⟩ | exact ⟨_, rfl⟩ | (simp only [World.drewN_drewN]; exact ⟨_, rfl⟩))⟩
      · have F := Lib.hid (show cmpL l1 l2 = 0 from by rw [← C, e]; exact cmpL_end (by rw [L1.out, L2.out]; omega))
        clear C e
        go_wp2
        go_ret
        exact ⟨ret_int F.out.symm, (by first | exact ⟨0, rfl⟩ | exact ⟨_, rfl⟩ | (simp only [World.drewN_drewN]; exact ⟨_, rfl⟩))⟩

theorem be_cast {l : List UInt8} {k : Nat} (h : k < l.length) : ((be (l.take (k + 1)) : Nat) : Int) = (be (l.take k) : Int) * 256 + bt l k := by
  rw [be_step h]; unfold bt; omega

end Go.Proofs.Ytoomdaljdbennaa.Cur
/- Walks over the reference of the package cursor: numbers. -/
namespace Go.Proofs.Ytoomdaljdbennaa.Cur
open Go.RowKit Kit

theorem be_small8 {l : List UInt8} {k : Nat} (h : k < l.length) (h8 : l.length ≤ 8) : be (l.take k) < 72057594037927936 := by
  have h1 := be_step h
  have h2 := be_take_lt h8 (k + 1)
  unfold W64 at h2
  omega

set_option maxHeartbeats 1000000 in
theorem refuint_any (A1 : Option Addr) (n1 c1 : Nat) (l1 : List UInt8) (w : World) {B1 : Nat} (h1 : Rd w B1 A1 n1 l1) (h1c : n1 ≤ c1) (m1 : c1 ≤ maxLen) :
    Calls Try.prog 60 #[.slice A1 n1 c1] w fun e w' => e = .returned (.tuple #[.int .u64 (uintV l1), .bool (uintOk l1)]) ∧ w = w' := by
  unfold maxLen at m1
  go_enter Try.func60, Try.ntmps60
  go_wp2
  go_loop [0] (fun v => ∃ A n c l, v = .slice A n c ∧ n ≤ c ∧ c ≤ c1 ∧ Rd w B1 A n l ∧ Hid (be l = be l1)) (fun v => match v with | .slice _ n _ => n | _ => 0)
  case atStart => exact ⟨A1, n1, c1, l1, rfl, h1c, Nat.le_refl _, h1, Lib.hid rfl⟩
  case round =>
    obtain ⟨A, n, c, l, rfl, hnc, hcc, hr, HV⟩ := hrel
    have LN := Lib.hid hr.len
    by_cases hlt : 0 < n
    · obtain ⟨a1, rfl, _, hc1⟩ := hr.at0 hlt
      have b1 := bt_lo l 0
      have b2 := bt_hi l 0
      by_cases hz : bt l 0 = 0
      · have hz' : (bt l 0 == 0) = true := by simpa using hz
        have HZ := Lib.hid (be_drop (l := l) (by rw [LN.out]; exact hlt) (by unfold bt at hz; omega))
        clear hz
        go_wp2
        go_round
        case rel =>
          refine ⟨_, _, _, l.drop 1, rfl, by omega, by omega, ?_, Lib.hid (by rw [HZ.out, HV.out])⟩
          have h := hr.cut (k := 1) (m := n) (cap := c) (by omega) (Nat.le_refl _) (by omega)
          rw [List.take_of_length_le (by rw [List.length_drop, LN.out]; exact Nat.le_refl _)] at h
          simpa [Addr.add] using h
        case measure => simp; omega
      · have hz' : (bt l 0 == 0) = false := by simpa using hz
        have HN : Hid ((l.getD 0 0).toNat ≠ 0) := Lib.hid (by unfold bt at hz; omega)
        clear hz
        by_cases h8 : 8 < n
        · have F := Lib.hid (uint_no (l := l1) (by rw [← HV.out]; exact be_ge (by rw [LN.out]; exact h8) HN.out))
          go_wp2
          go_ret2
          exact ⟨ret2 (vint F.out.1.symm) (vbool F.out.2.symm), rfl⟩
        · go_wp2
          go_loop [4, 5] (fun x i => ∃ k : Nat, k ≤ n ∧ i = .int .i64 k ∧ x = .int .u64 (be (l.take k) : Nat)) (fun _ i => n - (intOf i).toNat)
          case atStart => exact ⟨0, Nat.zero_le _, rfl, rfl⟩
          case round =>
            obtain ⟨k, hk, rfl, rfl⟩ := hrel
            by_cases hlt2 : k < n
            · obtain ⟨a2, e2, _, hc2⟩ := hr.at_ hlt2
              injection e2 with e2
              subst e2
              have b3 := bt_lo l k
              have b4 := bt_hi l k
              have hst := Lib.hid (be_cast (l := l) (k := k) (by rw [LN.out]; exact hlt2))
              have hv := be_small8 (l := l) (k := k) (by rw [LN.out]; omega) (by rw [LN.out]; omega)
              go_wp2
              go_round
              case rel => exact ⟨k + 1, by omega, by go_num, vint (by rw [hst.out])⟩
              case measure => simp [intOf]; omega
            · have F := Lib.hid (show l.take k = l from List.take_of_length_le (by rw [LN.out]; omega))
              have G := Lib.hid (uint_yes (l := l1) (by rw [← HV.out]; exact be_lt8 (by rw [LN.out]; omega)))
              go_wp2
              go_ret2
              exact ⟨ret2 (vint (by rw [G.out.1, F.out, HV.out])) (vbool G.out.2.symm), rfl⟩
    · have e0 : l = [] := List.eq_nil_of_length_eq_zero (by rw [LN.out]; omega)
      have G := Lib.hid (uint_yes (l := l1) (by rw [← HV.out, e0]; unfold be W64; simp))
      have G0 := Lib.hid (show be l1 = 0 by rw [← HV.out, e0]; rfl)
      clear e0
      obtain rfl : n = 0 := by omega
      go_wp2
      go_loop [4, 5] (fun x i => i = .int .i64 0 ∧ x = .int .u64 0) (fun _ _ => 0)
      case atStart => exact ⟨rfl, rfl⟩
      case round =>
        obtain ⟨rfl, rfl⟩ := hrel
        go_wp2
        go_ret2
        exact ⟨ret2 (vint (by rw [G.out.1, G0.out]; rfl)) (vbool G.out.2.symm), rfl⟩
end Go.Proofs.Ytoomdaljdbennaa.Cur
/- Walks: slices.Reverse over a slice that the call owns; minimal digits. -/
namespace Go.Proofs.Ytoomdaljdbennaa.Cur
open Go.RowKit Kit

/-- after k exchanges from both ends -/
def turned (l : List UInt8) (n k : Nat) (m : List UInt8) : Prop :=
  m.length = n ∧ ∀ i, i < n → bt m i = if i < k ∨ n ≤ i + k then bt l (n - 1 - i) else bt l i
theorem turned_zero {l : List UInt8} {n : Nat} (h : l.length = n) : turned l n 0 l := ⟨h, fun i hi => by rw [if_neg (by omega)]⟩
theorem turned_step {l m : List UInt8} {n k : Nat} (h : turned l n k m) (hk : k < n - 1 - k) (h0 : 0 < n) :
    turned l n (k + 1) ((m.set k (ofI (bt m (n - 1 - k)))).set (n - 1 - k) (ofI (bt m k))) := by
  refine ⟨by simpa using h.1, fun i hi => ?_⟩
  have hl := h.1
  rw [bt_set (bt_lo _ _) (bt_hi _ _) (by simp; omega), bt_set (bt_lo _ _) (bt_hi _ _) (by omega)]
  by_cases h1 : n - 1 - k = i
  · rw [if_pos h1, if_pos (by omega), h.2 k (by omega), if_neg (by omega), ← h1]
    congr 1; omega
  · rw [if_neg h1]
    by_cases h2 : k = i
    · rw [if_pos h2, if_pos (by omega), h.2 (n - 1 - k) (by omega), if_neg (by omega), ← h2]
    · rw [if_neg h2, h.2 i hi]
      by_cases h3 : i < k ∨ n ≤ i + k
      · rw [if_pos h3, if_pos (by omega)]
      · rw [if_neg h3, if_neg (by omega)]
theorem turned_end {l m : List UInt8} {n k : Nat} (hl : l.length = n) (h : turned l n k m) (hk : n ≤ 2 * k + 1) : m = l.reverse := by
  refine bt_ext (by rw [h.1, List.length_reverse, hl]) (fun i hi => ?_)
  rw [h.1] at hi
  rw [bt_reverse (by omega), h.2 i hi, hl]
  by_cases h3 : i < k ∨ n ≤ i + k
  · rw [if_pos h3]
  · rw [if_neg h3]; congr 1; omega

set_option maxHeartbeats 1000000 in
theorem reverse_any (g n c : Nat) (l : List UInt8) (w : World) (base : Nat) (h : Own w base (some ⟨g, 0, none⟩) n c l) :
    Calls Try.prog 59 #[.slice (some ⟨g, 0, none⟩) n c] w fun e w' => e = .returned (.tuple #[]) ∧ Own w' base (some ⟨g, 0, none⟩) n c l.reverse ∧ w.grownBy w' (some g) := by
  have hc := h.cap
  have hm := h.capMax
  have hl := Lib.hid h.len
  unfold maxLen at hm
  go_enter Try.func59, Try.ntmps59
  go_wp2
  go_loopw [2, 3] (fun i j wr => ∃ k m, 2 * k ≤ n + 1 ∧ i = .int .i64 (k : Nat) ∧ j = .int .i64 ((n : Int) - 1 - k) ∧ Own wr base (some ⟨g, 0, none⟩) n c m ∧ w.grownBy wr (some g) ∧ turned l n k m) (fun i _ _ => n - (intOf i).toNat)
  case atStart => exact ⟨0, l, by omega, rfl, by simp, h, World.grownBy.refl _ _, turned_zero hl.out⟩
  case round =>
    obtain ⟨k, m, hk, rfl, rfl, ho, hg, ht⟩ := hrel
    by_cases hlt : k < n - 1 - k ∧ 0 < n
    · obtain ⟨hlt, hn⟩ := hlt
      have hlt' : (k : Int) < (n : Int) - 1 - k := by omega
      have c1 := ho.cellAt (k := k) (by omega)
      have c2 := ho.cellAt (k := n - 1 - k) (by omega)
      have f1 := ho.frozenAt k
      have f2 := ho.frozenAt (n - 1 - k)
      have ei : ((n : Int) - 1 - k).toNat = n - 1 - k := by omega
      go_wp2
      go_region
      have o1 := Own.stored ho k (x := bt m (n - 1 - k)) (bt_lo _ _) (bt_hi _ _)
      have o2 := Own.stored o1 (n - 1 - k) (x := bt m k) (bt_lo _ _) (bt_hi _ _)
      have g2 := grown_drew (grown_set (grown_set hg k (.int .u8 (bt m (n - 1 - k)))) (n - 1 - k) (.int .u8 (bt m k)))
      have t2 := turned_step ht hlt hn
      clear c1 c2 f1 f2 ho hg ht o1
      go_wp2
      go_roundw
      case rel => exact ⟨k + 1, _, by omega, by go_num, by go_num, o2, g2, t2⟩
      case measure => simp [intOf]; omega
    · have F := Lib.hid (turned_end hl.out ht (by omega))
      rw [F.out] at ho
      have hge : ¬ ((k : Int) < (n : Int) - 1 - k) := by omega
      clear hlt
      go_wp2
      go_end0
      exact ⟨rfl, ho, hg⟩
end Go.Proofs.Ytoomdaljdbennaa.Cur
/- Walks: minimal digits of a number, in the package cursor and in its reference. -/
namespace Go.Proofs.Ytoomdaljdbennaa.Cur
open Go.RowKit Kit

theorem ofI_mod (x : Nat) : ofI ((x : Int) % 256) = UInt8.ofNat (x % 256) := by
  unfold ofI; congr 1
theorem ofI_div (x : Nat) (h : x < 256) : [ofI ((x : Int) % 256)] = minL x := by
  rw [minL_small h, ofI_mod, Nat.mod_eq_of_lt h]

/-- the loop of Minimal: the digits above, and those gathered below -/
def Gath (v x : Nat) (m : List UInt8) : Prop := if x = 0 then m.reverse = minL v else minL x ++ m.reverse = minL v
theorem gath_start {v : Nat} (hv : v < W64) : Gath v (v / 256) [ofI ((v : Int) % 256)] := by
  unfold Gath
  by_cases h : v < 256
  · rw [if_pos (by omega), List.reverse_singleton, ofI_div v h]
  · rw [if_neg (by omega), List.reverse_singleton, ofI_mod, ← minL_big (by omega) hv]
theorem gath_step {v x : Nat} {m : List UInt8} (h : Gath v x m) (hx : 0 < x) (hv : x < W64) : Gath v (x / 256) (m ++ [ofI ((x : Int) % 256)]) := by
  unfold Gath at h ⊢
  rw [if_neg (by omega)] at h
  rw [List.reverse_append, List.reverse_singleton]
  by_cases hs : x < 256
  · rw [if_pos (by omega), ofI_div x hs, h]
  · rw [if_neg (by omega), ← List.append_assoc, ofI_mod, ← minL_big (by omega) hv, h]
theorem gath_len {v x : Nat} {m : List UInt8} (h : Gath v x m) : m.length ≤ 8 := by
  unfold Gath at h
  have hl := (minL_len v).2
  split at h
  · rw [← h] at hl; simpa using hl
  · rw [← h] at hl; simp at hl; omega
theorem gath_end {v : Nat} {m : List UInt8} (h : Gath v 0 m) : m.reverse = minL v := by unfold Gath at h; simpa using h

set_option maxHeartbeats 1000000 in
theorem minimal_any (v : Nat) (w : World) (hv : v < W64) :
    Calls Try.prog 54 #[.int .u64 (v : Int)] w fun e w' => ∃ A c, e = .returned (.slice A (minL v).length c) ∧ Own w' w.heap.size A (minL v).length c (minL v) ∧ Below w.heap.size w w' := by
  have HV := Lib.hid hv
  have hv1 : v ≤ 18446744073709551615 := by unfold W64 at hv; omega
  clear hv
  go_enter Try.func54, Try.ntmps54
  go_wp2
  go_loopw [0, 3] (fun x o wr => ∃ (x' : Nat) (A : Option Addr) (n c : Nat) (m : List UInt8), x = .int .u64 (x' : Int) ∧ o = .slice A n c ∧ 1 ≤ n ∧ x' ≤ v ∧ Own wr w.heap.size A n c m ∧ Below w.heap.size w wr ∧ Gath v x' m)
     (fun x _ _ => (intOf x).toNat)
  case atStart =>
    refine ⟨v / 256, _, 1, 1, _, by simp, rfl, Nat.le_refl _, Nat.div_le_self _ _, ?_, (by repeat' (first | (with_reducible exact Below.refl _ _) | (with_reducible assumption) | (with_reducible refine below_drewN ?_ _) | (with_reducible refine Below.drew ?_) | (with_reducible refine Below.alloc ?_ ?_ _) | (with_reducible refine Below.setCell ?_ ?_ _) | go_size)), gath_start HV.out⟩
    have := Own.lit (base := w.heap.size) w [ofI ((v : Int) % 256)] (Nat.le_refl _) (by simp [maxLen])
    rw [show vs [ofI ((v : Int) % 256)] = [(v : Int) % 256].map (Value.int .u8) from vs_ofI [(v : Int) % 256] (in1 (by omega) (by omega))] at this
    exact this
  case round =>
    obtain ⟨x, A, n, c, m, rfl, rfl, hn1, hx, ho, hb, HM⟩ := hrel
    have hl := gath_len HM
    rw [ho.len] at hl
    by_cases hlt : 0 < x
    · have HM' := gath_step HM hlt (by have := HV.out; unfold W64 at this ⊢; omega)
      clear HM
      go_wp2_with (first | (at_builtin; refine appL [(x : Int) % 256] rfl (.tmp 13) (.tmp 16) rfl rfl ho rfl (in1 (by omega) (by omega)) (by simp; omega) hb.size ?_; intro A' c' w' ho' hg' hb' hs'))
      go_roundw
      case rel => exact ⟨x / 256, _, _, _, _, by simp, rfl, by omega, by omega, ho', hb.trans hb', HM'⟩
      case measure => simp [intOf]; omega
    · obtain rfl : x = 0 := by omega
      have E := Lib.hid (gath_end HM)
      obtain ⟨g, rfl⟩ := ho.shape (by omega)
      have el : n = (minL v).length := by rw [← E.out, List.length_reverse, ho.len]
      subst el
      have hlt := ho.lt
      clear HM hlt
      go_wp2_with (first | (go_at_call 59; refine (reverse_any _ _ _ _ _ _ ho).mono ?_; rintro e w' ⟨rfl, ho', hg'⟩))
      go_ret
      refine ⟨_, _, rfl, by rw [E.out] at ho'; exact ho', ?_⟩
      exact hb.grown hg' hb.size (fun k hk => by injection hk with hk; rw [← hk]; exact ho.lt.1)
end Go.Proofs.Ytoomdaljdbennaa.Cur
/- The walk of the reference's Minimal. -/
namespace Go.Proofs.Ytoomdaljdbennaa.Cur
open Go.RowKit Kit

set_option maxHeartbeats 1000000 in
theorem refminimal_any (v : Nat) : ∀ (w : World), v < W64 →
    Calls Try.prog 50 #[.int .u64 (v : Int)] w fun e w' => ∃ A c, e = .returned (.slice A (minL v).length c) ∧ Own w' w.heap.size A (minL v).length c (minL v) ∧ Below w.heap.size w w' := by
  induction v using Nat.strongRecOn with
  | ind v ih =>
    intro w hv
    have HV := Lib.hid hv
    by_cases hs : v < 256
    · have E := Lib.hid (minL_small hs)
      have HS := Lib.hid hs
      have hs' : (v : Int) < 256 := by omega
      clear hv ih hs
      go_enter Try.func50, Try.ntmps50
      go_wp2
      go_ret
      rw [E.out]
      refine ⟨_, _, rfl, ?_, (by repeat' (first | (with_reducible exact Below.refl _ _) | (with_reducible assumption) | (with_reducible refine below_drewN ?_ _) | (with_reducible refine Below.drew ?_) | (with_reducible refine Below.alloc ?_ ?_ _) | (with_reducible refine Below.setCell ?_ ?_ _) | go_size))⟩
      have := Own.lit (base := w.heap.size) w [UInt8.ofNat v] (Nat.le_refl _) (by simp [maxLen])
      have e : vs [UInt8.ofNat v] = [Value.int .u8 ((v : Int) % 256)] := by
        have := vs_ofI [(v : Int) % 256] (in1 (by omega) (by omega))
        rw [← minL_small HS.out, ← ofI_div v HS.out]; exact this
      rw [e] at this
      simpa [Int.emod_eq_of_lt (by omega : (0 : Int) ≤ v) (by omega : (v : Int) < 256)] using this
    · have E := Lib.hid (minL_big (by omega) hv)
      have hd : v / 256 < W64 := by unfold W64 at hv ⊢; omega
      have IH := Lib.hid (fun w => ih (v / 256) (by omega) w hd)
      rw [show (((v / 256 : Nat)) : Int) = (v : Int) / 256 from by omega] at IH
      have hl := (minL_len (v / 256)).2
      have hs' : ¬ (v : Int) < 256 := by omega
      have hv1 : (v : Int) ≤ 18446744073709551615 := by unfold W64 at hv; omega
      clear hv ih hd hs
      go_enter Try.func50, Try.ntmps50
      go_wp2_with (first | (go_at_call 50; refine (IH.out _).mono ?_; rintro e w1 ⟨A, c, rfl, ho, hb⟩) | (at_builtin; refine appL [(v : Int) % 256] rfl (.tmp 10) (.tmp 14) rfl rfl ho rfl (in1 (by omega) (by omega)) (by simp; omega) hb.size ?_; intro A' c' w2 ho' hg' hb' hs'))
      go_ret
      have el : (minL v).length = (minL (v / 256)).length + 1 := by rw [E.out]; simp
      rw [el]
      refine ⟨A', c', rfl, ?_, hb.trans hb'⟩
      rw [E.out, ← ofI_mod]
      exact ho'
end Go.Proofs.Ytoomdaljdbennaa.Cur
/- Slice literals of bytes, just made; Bytes of two slices of the world at hand; what stands behind a call. -/
namespace Go.Proofs.Ytoomdaljdbennaa.Kit
open Go.RowKit
theorem bytesK (A1 A2 : Option Addr) (n1 c1 n2 c2 : Nat) (l1 l2 : List UInt8) (w : World) (h1 : Rd w w.heap.size A1 n1 l1) (h2 : Rd w w.heap.size A2 n2 l2) :
    Calls Try.prog 18 #[.slice A1 n1 c1, .slice A2 n2 c2] w fun e w' => e = .returned (.bool (Cur.eqB l1 l2)) ∧ w = w' := Cur.bytes_any A1 A2 n1 c1 n2 c2 l1 l2 w h1 h2
theorem litK (X : World) (xs : List Int) (l : List UInt8) (S n : Nat) (hS : X.heap.size = S) (hxs : ∀ x ∈ xs, 0 ≤ x ∧ x ≤ 255) (hl : xs.map ofI = l) (hn : xs.length = n) :
    Rd (X.alloc (.cells (xs.map (Value.int .u8)).toArray 5)) (X.alloc (.cells (xs.map (Value.int .u8)).toArray 5)).heap.size (some ⟨S, 0, none⟩) n l :=
  (Rd.litE X xs l S n hS hxs hl hn).more (by rw [World.size_alloc, hS]; exact Nat.le_refl _)
theorem stayK {w v : World} {b : Nat} {o : Obj} (h : w.heap[b]? = some o) (hb : Below w.heap.size w v) : v.heap[b]? = some o := (hb.block _ (Blk_lt h)).trans h
theorem two_belowK {w w1 w2 : World} {B : Nat} (h1 : Below B w w1) (h2 : Below w1.heap.size w1 w2) (hB : B ≤ w1.heap.size) : Below B w w2 := h1.trans (h2.mono hB)
/-- a reading, behind new blocks -/
theorem Rd.allocS {w : World} {n : Nat} {A : Option Addr} {l : List UInt8} (h : Rd w w.heap.size A n l) (o : Obj) : Rd (w.alloc o) (w.alloc o).heap.size A n l := (h.alloc (Nat.le_refl _) o).more (by simp)
end Go.Proofs.Ytoomdaljdbennaa.Kit
/- The walk of slices.Clone on bytes. -/
namespace Go.Proofs.Ytoomdaljdbennaa.Cur
open Go.RowKit Kit

set_option maxHeartbeats 1000000 in
theorem clone_any (A : Option Addr) (n c : Nat) (l : List UInt8) (w : World) {B : Nat} (hr : Rd w B A n l) (hn : n ≤ 140737488355328) (hB : B ≤ w.heap.size) :
    Calls Try.prog 38 #[.slice A n c] w fun e w' => ∃ A' c', e = .returned (.slice A' n c') ∧ Own w' w.heap.size A' n c' l ∧ Below w.heap.size w w' := by
  have keq := fun (w : World) => Lib.run_eql_slice_nil (P := Try.prog) w 22 5 A n c 0 0 Try.underlying22
  rcases A with _ | ad
  · have hn0 : n = 0 := by
      rcases Nat.eq_zero_or_pos n with h0 | h0
      · exact h0
      · obtain ⟨_, e, _⟩ := hr.2 h0; cases e
    have hl : l = [] := List.eq_nil_of_length_eq_zero (hr.len.trans hn0)
    subst hn0 hl
    go_enter Try.func38, Try.ntmps38
    go_wp2
    go_ret
    exact ⟨none, 0, rfl, Own.none_ _ _, Below.refl _ _⟩
  · go_enter Try.func38, Try.ntmps38
    have ho := Own.lit (base := w.heap.size) w [] (Nat.le_refl _) (Nat.zero_le _)
    go_wp2_with (first | (at_builtin; refine app rfl (.tmp 5) (.tmp 6) rfl rfl ho rfl (hr.alloc hB _) (by omega) (by simp) ?_; intro A' c' w' ho' hg' hb' hs'))
    go_ret
    simp only [List.length_nil, Nat.zero_add, List.nil_append] at ho'
    exact ⟨A', c', by simp, ho', ((Below.refl _ _).alloc (Nat.le_refl _) _).trans hb'⟩

end Go.Proofs.Ytoomdaljdbennaa.Cur
/- Regions that draw their order, with callees that lay blocks of their own: small laws. -/
namespace Go.Proofs.Ytoomdaljdbennaa.Kit
open Go.RowKit Go.Sort

theorem of_regrown {w w' : World} (h : ∃ p : Regrown, w' = grow (redrawn w p.d) p.os) : Below w.heap.size w w' := by
  obtain ⟨p, rfl⟩ := h; exact below_regrown _ _ _
/-- a contract that leaves the world alone, met in a world of the class -/
theorem regrown_same {P : Program} {f : FuncId} {args : Array Value} {w : World} {d : Nat} {os : Array Obj} {v : Value}
    (h : Calls P f args (grow (redrawn w d) os) fun e w' => e = .returned v ∧ grow (redrawn w d) os = w') : Calls P f args (grow (redrawn w d) os) fun e w'' => e = .returned v ∧ ∃ p : Regrown, w'' = grow (redrawn w p.d) p.os :=
  h.mono fun _ _ ⟨he, hm⟩ => ⟨he, ⟨d, os⟩, hm.symm⟩
/-- a contract that draws only -/
theorem regrown_drew {P : Program} {f : FuncId} {args : Array Value} {w : World} {d : Nat} {os : Array Obj} {v : Value}
    (h : Calls P f args (grow (redrawn w d) os) fun e w' => e = .returned v ∧ ∃ m, w' = (grow (redrawn w d) os).drewN m) : Calls P f args (grow (redrawn w d) os) fun e w'' => e = .returned v ∧ ∃ p : Regrown, w'' = grow (redrawn w p.d) p.os :=
  Calls.regrown_of (h.mono fun _ _ ⟨he, m, hm⟩ => ⟨he, by rw [hm]; exact ⟨rfl, rfl, rfl, Nat.le_refl _, fun _ _ => rfl⟩⟩)
theorem Rd.regrown {w : World} {A : Option Addr} {n : Nat} {l : List UInt8} (h : Rd w w.heap.size A n l) (d : Nat) (os : Array Obj) : Rd (grow (redrawn w d) os) w.heap.size A n l := h.below (below_regrown w d os)
/-- six cells, in every world of the class -/
theorem six_regrown {w : World} {b : Nat} {x0 x1 x2 x3 x4 x5 : Value} (h : w.cell? ⟨b, 0, none⟩ = some x0 ∧ w.cell? ⟨b, 1, none⟩ = some x1 ∧ w.cell? ⟨b, 2, none⟩ = some x2 ∧ w.cell? ⟨b, 3, none⟩ = some x3 ∧ w.cell? ⟨b, 4, none⟩ = some x4 ∧ w.cell? ⟨b, 5, none⟩ = some x5) :
    (∀ d os, (grow (redrawn w d) os).cell? ⟨b, 0, none⟩ = some x0) ∧ (∀ d os, (grow (redrawn w d) os).cell? ⟨b, 1, none⟩ = some x1) ∧ (∀ d os, (grow (redrawn w d) os).cell? ⟨b, 2, none⟩ = some x2) ∧ (∀ d os, (grow (redrawn w d) os).cell? ⟨b, 3, none⟩ = some x3) ∧
      (∀ d os, (grow (redrawn w d) os).cell? ⟨b, 4, none⟩ = some x4) ∧ (∀ d os, (grow (redrawn w d) os).cell? ⟨b, 5, none⟩ = some x5) :=
  ⟨cell_regrown h.1, cell_regrown h.2.1, cell_regrown h.2.2.1, cell_regrown h.2.2.2.1, cell_regrown h.2.2.2.2.1, cell_regrown h.2.2.2.2.2⟩
end Go.Proofs.Ytoomdaljdbennaa.Kit
/- Walks: cretulabase.Within, where it answers yes. -/
namespace Go.Proofs.Ytoomdaljdbennaa.Kit
open Go.RowKit

set_option maxHeartbeats 1000000 in
theorem within_ok (n : Int) (w : World) : Calls Try.prog 14 #[.agg #[.int .i64 0, .int .i64 0], .int .i64 n] w fun e w' => e = .returned (.bool true) ∧ Below w.heap.size w w' := by
  go_enter Try.func14, Try.ntmps14
  go_wp2
  go_ret
  exact ⟨rfl, (by repeat' (first | (with_reducible exact Below.refl _ _) | (with_reducible assumption) | (with_reducible refine below_drewN ?_ _) | (with_reducible refine Below.drew ?_) | (with_reducible refine Below.alloc ?_ ?_ _) | (with_reducible refine Below.setCell ?_ ?_ _) | go_size))⟩
set_option maxHeartbeats 1000000 in
theorem within_err (c o n : Int) (w : World) (hc : 0 < c) (h0 : 0 ≤ o) (h1 : o ≤ n) : Calls Try.prog 14 #[.agg #[.int .i64 c, .int .i64 o], .int .i64 n] w fun e w' => e = .returned (.bool true) ∧ Below w.heap.size w w' := by
  have hc' : ¬ c = 0 := by omega
  go_enter Try.func14, Try.ntmps14
  go_wp2
  go_ret
  exact ⟨(by first | rfl | exact ret_bool (by simp [*])), (by repeat' (first | (with_reducible exact Below.refl _ _) | (with_reducible assumption) | (with_reducible refine below_drewN ?_ _) | (with_reducible refine Below.drew ?_) | (with_reducible refine Below.alloc ?_ ?_ _) | (with_reducible refine Below.setCell ?_ ?_ _) | go_size))⟩
end Go.Proofs.Ytoomdaljdbennaa.Kit
/- What an argument gives: slices of bytes that came in, opened into what the walks ask. -/
namespace Go.Proofs.Ytoomdaljdbennaa.Opn
open Go.ChangeShapes Go.WideShapes Go.ChangeAt Go.RowKit Kit
open Go.ChangeMaps (open_string shut_string)

theorem own : ownKnob Try.prog.godebug = none := by kernel_rfl
theorem laidOut : laidOutB Try.prog = true := by kernel_rfl

/-- numbers that fit a byte, as bytes -/
theorem rd_of_cells {w : World} {x : Addr} {len : Nat} {zs : List Int} (hl : len ≤ zs.length) (hcell : ∀ i, i < zs.length → w.cell? (x.add i) = some (.int .u8 (zs.getD i 0))) (hwz : ∀ n ∈ zs, (Lit.int .u8 n).wf = true) :
    Rd w w.heap.size (some x) len ((zs.take len).map ofI) := by
  refine ⟨by simp; omega, fun hn => ⟨x, rfl, ?_, fun k hk => ?_⟩⟩
  · have h0 := hcell 0 (by omega)
    have hb : (x.add 0).block < w.heap.size := by
      rcases Nat.lt_or_ge (x.add 0).block w.heap.size with h | h
      · exact h
      · unfold World.cell? at h0
        simp [Array.getElem?_eq_none h] at h0
    rwa [Kit.block_add] at hb
  · rw [hcell k (by omega)]
    have hm : zs.getD k 0 ∈ zs := by
      rw [List.getD_eq_getElem?_getD, List.getElem?_eq_getElem (by omega)]; exact List.getElem_mem _
    have hb := bounds_u8 (hwz _ hm)
    have e : bt ((zs.take len).map ofI) k = zs.getD k 0 := by
      have hk' : k < ((zs.take len).map ofI).length := by simp; omega
      rw [bt_eq hk']
      simp only [List.getElem_map, List.getElem_take]
      have e2 : zs.getD k 0 = zs[k]'(by omega) := by rw [List.getD_eq_getElem?_getD, List.getElem?_eq_getElem (by omega)]; rfl
      rw [e2] at hb
      rw [ofI_toNat hb.1 hb.2, e2]
    rw [e]
theorem bytes_arg {H : Type} {enc : TypeId × Value → H} {W : World} {base : Nat} {spare : Nat → Bool} {a : Option Addr} {len cap : Nat} {d : DataW H} {p : List MemPlace}
    (h : DataW.Trod enc Try.prog W base spare true 22 (.slice a len cap) d p) : ∃ l : List UInt8, Rd W W.heap.size a len l ∧ len ≤ cap ∧ cap ≤ maxLen := by
  obtain ⟨fuel, hf⟩ := h
  rcases open_ints Try.underlying22 Try.underlying5 (by kernel_rfl) hf with ⟨hcs, _⟩ | ⟨x, l, c, zs, hcs, _, hl, hm, hz, _, hcell, hwz⟩
  · simp [Value.cells] at hcs
    obtain ⟨rfl, rfl, rfl⟩ := hcs
    exact ⟨[], Rd.nil_, Nat.le_refl _, Nat.zero_le _⟩
  · simp [Value.cells] at hcs
    obtain ⟨rfl, rfl, rfl⟩ := hcs
    exact ⟨_, rd_of_cells (by rw [hz]; split <;> omega) hcell hwz, hl, hm⟩
end Go.Proofs.Ytoomdaljdbennaa.Opn
/- A block that holds an api.Error. -/
namespace Go.Proofs.Ytoomdaljdbennaa.Kit
open Go.RowKit
/-- block b holds an api.Error -/
def ErrB (w : World) (b : Nat) (code off : Int) : Prop := w.heap[b]? = some (.cells #[.int .i64 code, .int .i64 off] 29 (0, 0))
section
variable {w w' : World} {b : Nat} {code off : Int}
theorem ErrB.new (w : World) (code off : Int) : ErrB (w.alloc (.cells #[.int .i64 code, .int .i64 off] 29)) w.heap.size code off := heap_alloc_new w _
theorem ErrB.lt (h : ErrB w b code off) : b < w.heap.size := Blk_lt h
theorem ErrB.cell0 (h : ErrB w b code off) : w.cell? ⟨b, 0, none⟩ = some (.int .i64 code) := by rw [cell_of_row w b 0 _ _ _ h]; rfl
theorem ErrB.cell1 (h : ErrB w b code off) : w.cell? ⟨b, 1, none⟩ = some (.int .i64 off) := by rw [cell_of_row w b 1 _ _ _ h]; rfl
theorem ErrB.frozen (h : ErrB w b code off) (k : Nat) : w.frozen? ⟨b, k, none⟩ = false := frozen_of_row w b k _ _ h
theorem ErrB.below {B : Nat} (h : ErrB w b code off) (hb : Below B w w') (hB : b < B) : ErrB w' b code off := (hb.block b hB).trans h
theorem ErrB.past (h : ErrB w b code off) (hb : Below w.heap.size w w') : ErrB w' b code off := h.below hb h.lt
theorem ErrB.grown {r : Option Nat} (h : ErrB w b code off) (hb : w.grownBy w' r) (hr : some b ≠ r) : ErrB w' b code off := (hb.block b h.lt hr).trans h
theorem ErrB.alloc (h : ErrB w b code off) (o : Obj) : ErrB (w.alloc o) b code off := (Below.heap_alloc w o b h.lt).trans h
theorem ErrB.drew (h : ErrB w b code off) : ErrB w.drew b code off := h
theorem ErrB.drewN (h : ErrB w b code off) (k : Nat) : ErrB (w.drewN k) b code off := h
end
/-- a change of one block, from a bound on -/
theorem below_grown {w w' : World} {B : Nat} {r : Option Nat} (hg : w.grownBy w' r) (hB : B ≤ w.heap.size) (hr : ∀ k, r = some k → B ≤ k) : Below B w w' := (Below.refl _ _).grown hg hB hr
end Go.Proofs.Ytoomdaljdbennaa.Kit
