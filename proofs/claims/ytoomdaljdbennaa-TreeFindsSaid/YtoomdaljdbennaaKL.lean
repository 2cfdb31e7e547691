/- Joined texts: PlTree, PlEl, PlList. -/
import Derived.Test.YtoomdaljdbennaaKU
set_option linter.unusedSimpArgs false
set_option linter.unusedVariables false
/- Plain laws of trees: what the reference's Read returns; what an encoding reads as. No program in sight. -/
namespace Go.Proofs.Ytoomdaljdbennaa.Tree
open Kit Cur Tlv

/-- a tree -/
inductive T where
  | mk (c n : Int) (b : Bool) (con : List UInt8) (kids : List T)
def T.zero : T := .mk 0 0 false [] []
def T.cls : T → Int | .mk c _ _ _ _ => c
def T.num : T → Int | .mk _ n _ _ _ => n
def T.cons : T → Bool | .mk _ _ b _ _ => b
def T.con : T → List UInt8 | .mk _ _ _ k _ => k
def T.kids : T → List T | .mk _ _ _ _ l => l
/-- what Read returns: a tree, the number of octets, an error's code and offset -/
structure Rt where
  t : T
  size : Int
  code : Int
  off : Int
/-- the trees one behind the other, from a place on -/
def kidsA (rd : List UInt8 → Rt) (l : List UInt8) : Nat → Nat → List T → List T × Int × Int
  | 0, _, acc => (acc, 0, 0)
  | f + 1, p, acc =>
    if l.length ≤ p then (acc, 0, 0)
    else if (rd (l.drop p)).code ≠ 0 then ([], (rd (l.drop p)).code, p + (rd (l.drop p)).off)
    else kidsA rd l f (p + (rd (l.drop p)).size.toNat) (acc ++ [(rd (l.drop p)).t])
def readT : Nat → List UInt8 → Rt
  | 0, _ => ⟨T.zero, 0, 5, 0⟩
  | d + 1, l =>
    if (nx l).code ≠ 0 then ⟨T.zero, 0, (nx l).code, (nx l).off⟩
    else if (nx l).hd.cons = false then ⟨.mk (nx l).hd.cls (nx l).hd.num false (nx l).con [], (nx l).hd.size + (nx l).hd.len, 0, 0⟩
    else if (kidsA (readT d) (nx l).con ((nx l).con.length + 1) 0 []).2.1 ≠ 0 then
      ⟨T.zero, 0, (kidsA (readT d) (nx l).con ((nx l).con.length + 1) 0 []).2.1, (nx l).hd.size + (kidsA (readT d) (nx l).con ((nx l).con.length + 1) 0 []).2.2⟩
    else ⟨.mk (nx l).hd.cls (nx l).hd.num true [] (kidsA (readT d) (nx l).con ((nx l).con.length + 1) 0 []).1, (nx l).hd.size + (nx l).hd.len, 0, 0⟩
/-- what Within returns -/
def withinT (l : List UInt8) (d : Nat) : T × Int × Int :=
  if (readT d l).code = 0 ∧ (readT d l).size < l.length then (T.zero, 2, (readT d l).size) else ((readT d l).t, (readT d l).code, (readT d l).off)

theorem kidsA_end (rd : List UInt8 → Rt) (l : List UInt8) (f p : Nat) (acc : List T) (h : l.length ≤ p) : kidsA rd l f p acc = (acc, 0, 0) := by
  cases f with
  | zero => rfl
  | succ f => unfold kidsA; rw [if_pos h]
theorem kidsA_err {rd : List UInt8 → Rt} {l : List UInt8} {f p : Nat} {acc : List T} (h : p < l.length) (he : (rd (l.drop p)).code ≠ 0) :
    kidsA rd l (f + 1) p acc = ([], (rd (l.drop p)).code, p + (rd (l.drop p)).off) := by
  conv => lhs; unfold kidsA
  rw [if_neg (by omega), if_pos he]
theorem kidsA_step {rd : List UInt8 → Rt} {l : List UInt8} {f p : Nat} {acc : List T} (h : p < l.length) (he : (rd (l.drop p)).code = 0) :
    kidsA rd l (f + 1) p acc = kidsA rd l f (p + (rd (l.drop p)).size.toNat) (acc ++ [(rd (l.drop p)).t]) := by
  conv => lhs; unfold kidsA
  rw [if_neg (by omega), if_neg (by omega)]

theorem readT_err {d : Nat} {l : List UInt8} (h : (nx l).code ≠ 0) : readT (d + 1) l = ⟨T.zero, 0, (nx l).code, (nx l).off⟩ := by
  conv => lhs; unfold readT
  rw [if_pos h]
theorem readT_leaf {d : Nat} {l : List UInt8} (h : ¬ (nx l).code ≠ 0) (h2 : (nx l).hd.cons = false) :
    readT (d + 1) l = ⟨.mk (nx l).hd.cls (nx l).hd.num false (nx l).con [], (nx l).hd.size + (nx l).hd.len, 0, 0⟩ := by
  conv => lhs; unfold readT
  rw [if_neg h, if_pos h2]
theorem readT_kerr {d : Nat} {l : List UInt8} (h : ¬ (nx l).code ≠ 0) (h2 : (nx l).hd.cons = true) (h3 : (kidsA (readT d) (nx l).con ((nx l).con.length + 1) 0 []).2.1 ≠ 0) :
    readT (d + 1) l = ⟨T.zero, 0, (kidsA (readT d) (nx l).con ((nx l).con.length + 1) 0 []).2.1, (nx l).hd.size + (kidsA (readT d) (nx l).con ((nx l).con.length + 1) 0 []).2.2⟩ := by
  conv => lhs; unfold readT
  rw [if_neg h, if_neg (by simp [h2]), if_pos h3]
theorem readT_node {d : Nat} {l : List UInt8} (h : ¬ (nx l).code ≠ 0) (h2 : (nx l).hd.cons = true) (h3 : ¬ (kidsA (readT d) (nx l).con ((nx l).con.length + 1) 0 []).2.1 ≠ 0) :
    readT (d + 1) l = ⟨.mk (nx l).hd.cls (nx l).hd.num true [] (kidsA (readT d) (nx l).con ((nx l).con.length + 1) 0 []).1, (nx l).hd.size + (nx l).hd.len, 0, 0⟩ := by
  conv => lhs; unfold readT
  rw [if_neg h, if_neg (by simp [h2]), if_neg h3]

/-- bounds of what Read returns -/
def RtOk (r : Rt) (n : Nat) : Prop :=
  (r.code = 0 → r.off = 0 ∧ 2 ≤ r.size ∧ r.size ≤ n) ∧ (r.code ≠ 0 → r.t = T.zero ∧ r.size = 0 ∧ 0 < r.code ∧ 0 ≤ r.off ∧ r.off ≤ n)
theorem kidsA_bd {rd : List UInt8 → Rt} {l : List UInt8} (hrd : ∀ m : List UInt8, m.length ≤ l.length → RtOk (rd m) m.length) : ∀ (f p : Nat) (acc : List T), p ≤ l.length →
    ((kidsA rd l f p acc).2.1 = 0 → (kidsA rd l f p acc).2.2 = 0) ∧ ((kidsA rd l f p acc).2.1 ≠ 0 → 0 < (kidsA rd l f p acc).2.1 ∧ 0 ≤ (kidsA rd l f p acc).2.2 ∧ (kidsA rd l f p acc).2.2 ≤ l.length) := by
  intro f
  induction f with
  | zero => intro p acc _; exact ⟨fun _ => rfl, fun h => absurd rfl h⟩
  | succ f ih =>
    intro p acc hp
    rcases Nat.lt_or_ge p l.length with hlt | hge
    · have hb := hrd (l.drop p) (by rw [List.length_drop]; omega)
      rw [List.length_drop] at hb
      by_cases he : (rd (l.drop p)).code ≠ 0
      · rw [kidsA_err hlt he]
        obtain ⟨_, _, b3, b4, b5⟩ := hb.2 he
        exact ⟨fun h => absurd h he, fun _ => ⟨b3, by simp only []; omega, by simp only []; omega⟩⟩
      · rw [kidsA_step hlt (by omega)]
        obtain ⟨_, b2, b3⟩ := hb.1 (by omega)
        exact ih _ _ (by omega)
    · rw [kidsA_end _ _ _ _ _ hge]
      exact ⟨fun _ => rfl, fun h => absurd rfl h⟩
theorem readT_bd : ∀ (d : Nat) (l : List UInt8), l.length ≤ 140737488355328 → RtOk (readT d l) l.length := by
  intro d
  induction d with
  | zero => intro l _; exact ⟨fun h => by simp [readT] at h, fun _ => ⟨rfl, rfl, by simp [readT], by simp [readT], by simp [readT]⟩⟩
  | succ d ih =>
    intro l hl
    by_cases h : (nx l).code ≠ 0
    · rw [readT_err h]
      obtain ⟨_, _, _, e1, e2, e3⟩ := nx_err hl h
      exact ⟨fun h' => absurd h' h, fun _ => ⟨rfl, rfl, e1, e2, e3⟩⟩
    · obtain ⟨b1, b2, b3, b4, b5⟩ := nx_back (by omega : (nx l).code = 0)
      have el := enc_len (b := (nx l).hd.cons) b1
      have hln := congrArg List.length b2
      rw [List.length_append, el] at hln
      have hll := (rl_len (encCode_ok b1).2 []).2.1
      have hs : 2 ≤ (nx l).hd.size + (nx l).hd.len ∧ (nx l).hd.size + (nx l).hd.len ≤ l.length := by rw [b4, b5]; omega
      cases h2 : (nx l).hd.cons with
      | false => rw [readT_leaf h h2]; exact ⟨fun _ => ⟨rfl, hs.1, hs.2⟩, fun h' => absurd rfl h'⟩
      | true =>
        have kb := kidsA_bd (rd := readT d) (l := (nx l).con) (fun m hm => ih m (by omega)) ((nx l).con.length + 1) 0 [] (Nat.zero_le _)
        by_cases h3 : (kidsA (readT d) (nx l).con ((nx l).con.length + 1) 0 []).2.1 ≠ 0
        · rw [readT_kerr h h2 h3]
          obtain ⟨k1, k2, k3⟩ := kb.2 h3
          exact ⟨fun h' => absurd h' h3, fun _ => ⟨rfl, rfl, k1, by simp only []; omega, by simp only []; omega⟩⟩
        · rw [readT_node h h2 h3]
          exact ⟨fun _ => ⟨rfl, hs.1, hs.2⟩, fun h' => absurd rfl h'⟩

/-- a primitive element, read as a tree -/
theorem readT_prim {c n : Int} {k : List UInt8} (d : Nat) (h : encCode c n k.length = 0) (more : List UInt8) :
    readT (d + 1) (encL c false n k ++ more) = ⟨.mk c n false k [], ((encL c false n k).length : Int), 0, 0⟩ := by
  have hx := nx_enc (b := false) h more
  have el := enc_len (b := false) h
  have hc : (nx (encL c false n k ++ more)).code = 0 := by rw [hx]
  rw [readT_leaf (by omega) (by rw [hx]), hx, el]
  simp
/-- encodings one behind the other -/
def catE : List (T × List UInt8) → List UInt8
  | [] => []
  | x :: l => x.2 ++ catE l
theorem kidsA_enc {rd : List UInt8 → Rt} : ∀ (ls : List (T × List UInt8)) (pre : List UInt8) (acc : List T) (f : Nat),
    (∀ x, x ∈ ls → 1 ≤ x.2.length ∧ ∀ more, rd (x.2 ++ more) = ⟨x.1, (x.2.length : Int), 0, 0⟩) → (catE ls).length ≤ f →
    kidsA rd (pre ++ catE ls) f pre.length acc = (acc ++ ls.map (·.1), 0, 0) := by
  intro ls
  induction ls with
  | nil => intro pre acc f _ _; rw [kidsA_end _ _ _ _ _ (by simp [catE])]; simp
  | cons x ls ih =>
    intro pre acc f hx hf
    obtain ⟨h1, h2⟩ := hx x (by simp)
    simp only [catE, List.length_append] at hf
    cases f with
    | zero => omega
    | succ f =>
      have hd : (pre ++ catE (x :: ls)).drop pre.length = x.2 ++ catE ls := by rw [List.drop_left' rfl]; rfl
      have hr := h2 (catE ls)
      rw [kidsA_step (by simp [catE]; omega) (by rw [hd, hr]), hd, hr]
      simp only [Int.toNat_natCast]
      have := ih (pre ++ x.2) (acc ++ [x.1]) f (fun y hy => hx y (by simp [hy])) (by omega)
      rw [List.length_append, List.append_assoc] at this
      rw [show pre ++ catE (x :: ls) = pre ++ (x.2 ++ catE ls) from rfl, this]
      simp
/-- a constructed element, read as a tree -/
theorem readT_cons {c n : Int} (ls : List (T × List UInt8)) (d : Nat) (h : encCode c n (catE ls).length = 0)
    (hx : ∀ x, x ∈ ls → 1 ≤ x.2.length ∧ ∀ more, readT d (x.2 ++ more) = ⟨x.1, (x.2.length : Int), 0, 0⟩) (more : List UInt8) :
    readT (d + 1) (encL c true n (catE ls) ++ more) = ⟨.mk c n true [] (ls.map (·.1)), ((encL c true n (catE ls)).length : Int), 0, 0⟩ := by
  have hxx := nx_enc (b := true) h more
  have el := enc_len (b := true) h
  have hc : (nx (encL c true n (catE ls) ++ more)).code = 0 := by rw [hxx]
  have hk := kidsA_enc ls [] [] ((catE ls).length + 1) hx (by omega)
  simp only [List.nil_append, List.length_nil] at hk
  rw [readT_node (by omega) (by rw [hxx]) (by rw [hxx]; simp only []; rw [hk]; simp), hxx, el]
  simp only []
  rw [hk]
  simp
theorem withinT_enc {e : List UInt8} {t : T} {d : Nat} (h : ∀ more, readT d (e ++ more) = ⟨t, (e.length : Int), 0, 0⟩) : withinT e d = (t, 0, 0) := by
  have := h []
  rw [List.append_nil] at this
  unfold withinT
  rw [this, if_neg (by simp)]
end Go.Proofs.Ytoomdaljdbennaa.Tree
/- Plain laws of elements in a slice: the next one, the only one, their list. No program in sight. -/
namespace Go.Proofs.Ytoomdaljdbennaa.Tlv
open Kit Cur

/-- an element in a slice -/
structure El where
  cls : Int
  num : Int
  cons : Bool
  start : Int
  body : Int
  stop : Int
def El.zero : El := ⟨0, 0, false, 0, 0, 0⟩
/-- what next returns: an element, an error's code and offset -/
def elV (l : List UInt8) (a z : Nat) : El × Int × Int :=
  let r := rh ((l.drop a).take (z - a))
  if r.2.1 ≠ 0 then (El.zero, r.2.1, r.2.2 + a)
  else if (z : Int) - a - r.1.size < r.1.len then (El.zero, 1, z)
  else (⟨r.1.cls, r.1.num, r.1.cons, a, a + r.1.size, a + r.1.size + r.1.len⟩, 0, 0)
theorem elV_bad {l : List UInt8} {a z : Nat} (h : (rh ((l.drop a).take (z - a))).2.1 ≠ 0) : elV l a z = (El.zero, (rh ((l.drop a).take (z - a))).2.1, (rh ((l.drop a).take (z - a))).2.2 + a) := by
  unfold elV; simp only []; rw [if_pos h]
theorem elV_short {l : List UInt8} {a z : Nat} (h : ¬ (rh ((l.drop a).take (z - a))).2.1 ≠ 0) (h2 : (z : Int) - a - (rh ((l.drop a).take (z - a))).1.size < (rh ((l.drop a).take (z - a))).1.len) : elV l a z = (El.zero, 1, (z : Int)) := by
  unfold elV; simp only []; rw [if_neg h, if_pos h2]
theorem elV_ok {l : List UInt8} {a z : Nat} (h : ¬ (rh ((l.drop a).take (z - a))).2.1 ≠ 0) (h2 : ¬ (z : Int) - a - (rh ((l.drop a).take (z - a))).1.size < (rh ((l.drop a).take (z - a))).1.len) :
    elV l a z = (⟨(rh ((l.drop a).take (z - a))).1.cls, (rh ((l.drop a).take (z - a))).1.num, (rh ((l.drop a).take (z - a))).1.cons, a, a + (rh ((l.drop a).take (z - a))).1.size, a + (rh ((l.drop a).take (z - a))).1.size + (rh ((l.drop a).take (z - a))).1.len⟩, 0, 0) := by
  unfold elV; simp only []; rw [if_neg h, if_neg h2]
/-- bounds of what next returns -/
theorem elV_bd {l : List UInt8} {a z : Nat} (ha : a ≤ z) (hz : z ≤ l.length) (hl : l.length ≤ 140737488355328) :
    ((elV l a z).2.1 ≠ 0 → (elV l a z).1 = El.zero ∧ 0 < (elV l a z).2.1 ∧ (elV l a z).2.1 ≤ 4 ∧ (a : Int) ≤ (elV l a z).2.2 ∧ (elV l a z).2.2 ≤ z) ∧
    ((elV l a z).2.1 = 0 → (elV l a z).2.2 = 0 ∧ (elV l a z).1.start = a ∧ (a : Int) + 2 ≤ (elV l a z).1.body ∧ (elV l a z).1.body ≤ (elV l a z).1.stop ∧ (elV l a z).1.stop ≤ z) := by
  have hs : ((l.drop a).take (z - a)).length = z - a := by rw [List.length_take, List.length_drop]; omega
  obtain ⟨d1, d2, d3, d4, d5, d6, d7, d8⟩ := rh_bd ((l.drop a).take (z - a)) (by omega)
  rw [hs] at d8
  by_cases h : (rh ((l.drop a).take (z - a))).2.1 ≠ 0
  · rw [elV_bad h]
    exact ⟨fun _ => ⟨rfl, by simp only []; omega, by simp only []; omega, by simp only []; omega, by simp only []; omega⟩, fun h' => absurd h' h⟩
  · by_cases h2 : (z : Int) - a - (rh ((l.drop a).take (z - a))).1.size < (rh ((l.drop a).take (z - a))).1.len
    · rw [elV_short h h2]
      exact ⟨fun _ => ⟨rfl, by simp only []; omega, by simp only []; omega, by simp only []; omega, by simp only []; omega⟩, fun h' => by simp at h'⟩
    · rw [elV_ok h h2]
      obtain ⟨k0, k1, k2, k3⟩ := rh_ok (by omega : (rh ((l.drop a).take (z - a))).2.1 = 0)
      have hr := rl_read k2
      have hsz : 2 ≤ (rh ((l.drop a).take (z - a))).1.size := by rw [k3]; simp only []; omega
      exact ⟨fun h' => absurd rfl h', fun _ => ⟨rfl, rfl, by simp only []; omega, by simp only []; omega, by simp only []; omega⟩⟩
/-- what One returns -/
def oneV (l : List UInt8) : El × Int × Int :=
  if (elV l 0 l.length).2.1 = 0 ∧ (elV l 0 l.length).1.stop < l.length then (El.zero, 2, (elV l 0 l.length).1.stop) else elV l 0 l.length
theorem elV_full (l : List UInt8) : elV l 0 l.length = if (nx l).code ≠ 0 then (El.zero, (nx l).code, (nx l).off) else (⟨(nx l).hd.cls, (nx l).hd.num, (nx l).hd.cons, 0, (nx l).hd.size, (nx l).hd.size + (nx l).hd.len⟩, 0, 0) := by
  have e : (l.drop 0).take (l.length - 0) = l := by rw [List.drop_zero, Nat.sub_zero, List.take_of_length_le (Nat.le_refl _)]
  unfold elV nx
  rw [e]
  simp only []
  by_cases h : (rh l).2.1 ≠ 0
  · rw [if_pos h, if_pos h]
    simp only []
    rw [if_pos h]
    simp
  · rw [if_neg h, if_neg h]
    by_cases h2 : (l.length : Int) - (rh l).1.size < (rh l).1.len
    · rw [if_pos (by omega), if_pos h2]; simp
    · rw [if_neg (by omega), if_neg h2]; simp
/-- the element that the whole is -/
theorem one_ok {l : List UInt8} (h : (oneV l).2.1 = 0) : (nx l).code = 0 ∧ (nx l).rest = [] ∧ encCode (nx l).hd.cls (nx l).hd.num (nx l).con.length = 0 ∧ encL (nx l).hd.cls (nx l).hd.cons (nx l).hd.num (nx l).con = l ∧
    oneV l = (⟨(nx l).hd.cls, (nx l).hd.num, (nx l).hd.cons, 0, ((1 + (lenL (nx l).con.length).length : Nat) : Int), (l.length : Int)⟩, 0, 0) ∧ (l.drop (1 + (lenL (nx l).con.length).length)) = (nx l).con ∧ 1 + (lenL (nx l).con.length).length + (nx l).con.length = l.length := by
  unfold oneV at h ⊢
  rw [elV_full] at h ⊢
  by_cases hc : (nx l).code ≠ 0
  · rw [if_pos hc] at h
    simp only [] at h
    rw [if_neg (by simp [hc])] at h
    simp only [] at h
    omega
  · rw [if_neg hc] at h ⊢
    obtain ⟨b1, b2, b3, b4, b5⟩ := nx_back (by omega : (nx l).code = 0)
    have el := enc_len (b := (nx l).hd.cons) b1
    have hl := congrArg List.length b2
    rw [List.length_append, el] at hl
    simp only [] at h ⊢
    by_cases hs : (nx l).hd.size + (nx l).hd.len < l.length
    · rw [if_pos ⟨trivial, hs⟩] at h; simp at h
    · have hr : (nx l).rest = [] := List.eq_nil_of_length_eq_zero (by omega)
      rw [if_neg (by simp; omega)]
      rw [hr, List.append_nil] at b2
      rw [hr] at hl
      simp only [List.length_nil] at hl
      refine ⟨by omega, hr, b1, b2, ?_, ?_, by omega⟩
      · rw [b5, b4, ← hl]; simp
      · obtain ⟨i1, i2⟩ := encCode_ok b1
        have h3 := congrArg (List.drop (1 + (lenL (nx l).con.length).length)) b2
        rw [(enc_ok _ _ i1 i2).1] at h3
        rw [Nat.add_comm 1] at h3 ⊢
        rw [List.drop_succ_cons, List.drop_left' rfl] at h3
        exact h3.symm
theorem one_err {l : List UInt8} (hl : l.length ≤ 140737488355328) (h : (oneV l).2.1 ≠ 0) : (oneV l).1 = El.zero ∧ 0 < (oneV l).2.1 ∧ 0 ≤ (oneV l).2.2 ∧ (oneV l).2.2 ≤ l.length := by
  have hb := elV_bd (l := l) (a := 0) (z := l.length) (by omega) (Nat.le_refl _) hl
  unfold oneV at h ⊢
  by_cases hc : (elV l 0 l.length).2.1 = 0 ∧ (elV l 0 l.length).1.stop < l.length
  · rw [if_pos hc] at h ⊢
    have := hb.2 hc.1
    exact ⟨rfl, by simp only []; omega, by simp only []; omega, by simp only []; omega⟩
  · rw [if_neg hc] at h ⊢
    obtain ⟨a1, a2, a3, a4, a5⟩ := hb.1 h
    exact ⟨a1, a2, by omega, a5⟩
/-- an element, read as the whole -/
theorem one_enc {c n : Int} {b : Bool} {k : List UInt8} (h : encCode c n k.length = 0) : oneV (encL c b n k) = (⟨c, n, b, 0, 1 + ((lenL k.length).length : Int), ((encL c b n k).length : Int)⟩, 0, 0) := by
  have hx := nx_enc (b := b) h []
  rw [List.append_nil] at hx
  have el := enc_len (b := b) h
  have e : elV (encL c b n k) 0 (encL c b n k).length = (⟨c, n, b, 0, 1 + ((lenL k.length).length : Int), 1 + ((lenL k.length).length : Int) + (k.length : Int)⟩, 0, 0) := by
    rw [elV_full, hx]
    simp
  unfold oneV
  rw [e]
  have hn : ¬ ((0 : Int) = 0 ∧ 1 + ((lenL k.length).length : Int) + (k.length : Int) < ((encL c b n k).length : Int)) := by rw [el]; omega
  rw [if_neg hn, el]
  congr 2
end Go.Proofs.Ytoomdaljdbennaa.Tlv
/- Plain laws of lists of elements: what List and Parts return. No program in sight. -/
namespace Go.Proofs.Ytoomdaljdbennaa.Tlv
open Kit Cur

/-- the elements one behind the other, from a place on -/
def elsA (l : List UInt8) (z : Nat) : Nat → Nat → List El → List El × Int × Int
  | 0, _, acc => (acc, 0, 0)
  | f + 1, p, acc =>
    if z ≤ p then (acc, 0, 0)
    else if (elV l p z).2.1 ≠ 0 then ([], (elV l p z).2.1, (elV l p z).2.2)
    else elsA l z f (elV l p z).1.stop.toNat (acc ++ [(elV l p z).1])
/-- what List returns -/
def listV (l : List UInt8) (a z : Nat) : List El × Int × Int := elsA l z (z - a + 1) a []
theorem elsA_end (l : List UInt8) (z f p : Nat) (acc : List El) (h : z ≤ p) : elsA l z f p acc = (acc, 0, 0) := by
  cases f with
  | zero => rfl
  | succ f => unfold elsA; rw [if_pos h]
theorem elsA_err {l : List UInt8} {z f p : Nat} {acc : List El} (h : p < z) (he : (elV l p z).2.1 ≠ 0) : elsA l z (f + 1) p acc = ([], (elV l p z).2.1, (elV l p z).2.2) := by
  conv => lhs; unfold elsA
  rw [if_neg (by omega), if_pos he]
theorem elsA_step {l : List UInt8} {z f p : Nat} {acc : List El} (h : p < z) (he : (elV l p z).2.1 = 0) : elsA l z (f + 1) p acc = elsA l z f (elV l p z).1.stop.toNat (acc ++ [(elV l p z).1]) := by
  conv => lhs; unfold elsA
  rw [if_neg (by omega), if_neg (by omega)]
/-- the elements of a list, one behind the other in a part of the bytes -/
def Row (l : List UInt8) (z : Nat) : Nat → List El → Prop
  | p, [] => p = z
  | p, x :: xs => p < z ∧ elV l p z = (x, 0, 0) ∧ Row l z x.stop.toNat xs
theorem el_eq {r : El × Int × Int} (h : r.2.1 = 0) (h2 : r.2.2 = 0) : r = (r.1, 0, 0) := by
  obtain ⟨x, a, b⟩ := r
  simp only [] at h h2
  rw [h, h2]
theorem elsA_back {l : List UInt8} {z : Nat} (hz : z ≤ l.length) (hl : l.length ≤ 140737488355328) : ∀ (f p : Nat) (acc : List El), p ≤ z → z - p < f →
    ((elsA l z f p acc).2.1 = 0 → (elsA l z f p acc).2.2 = 0 ∧ ∃ xs, (elsA l z f p acc).1 = acc ++ xs ∧ Row l z p xs) ∧
    ((elsA l z f p acc).2.1 ≠ 0 → (elsA l z f p acc).1 = [] ∧ 0 < (elsA l z f p acc).2.1 ∧ (elsA l z f p acc).2.1 ≤ 4 ∧ (p : Int) ≤ (elsA l z f p acc).2.2 ∧ (elsA l z f p acc).2.2 ≤ z) := by
  intro f
  induction f with
  | zero => intro p acc _ h; omega
  | succ f ih =>
    intro p acc hp hf
    rcases Nat.lt_or_ge p z with hlt | hge
    · have hb := elV_bd (l := l) (a := p) (z := z) hp hz hl
      by_cases he : (elV l p z).2.1 ≠ 0
      · rw [elsA_err hlt he]
        obtain ⟨_, b2, b3, b4, b5⟩ := hb.1 he
        exact ⟨fun h => absurd h he, fun _ => ⟨rfl, b2, b3, b4, b5⟩⟩
      · rw [elsA_step hlt (by omega)]
        obtain ⟨c1, c2, c3, c4, c5⟩ := hb.2 (by omega)
        have i := ih (elV l p z).1.stop.toNat (acc ++ [(elV l p z).1]) (by omega) (by omega)
        refine ⟨fun h => ?_, fun h => ?_⟩
        · obtain ⟨h1, xs, h2, h3⟩ := i.1 h
          refine ⟨h1, (elV l p z).1 :: xs, by rw [h2]; simp, hlt, ?_, h3⟩
          exact el_eq (by omega) c1
        · obtain ⟨h1, h2, h3, h4, h5⟩ := i.2 h
          exact ⟨h1, h2, h3, by omega, h5⟩
    · rw [elsA_end _ _ _ _ _ hge]
      exact ⟨fun _ => ⟨rfl, [], by simp, by show p = z; omega⟩, fun h => absurd rfl h⟩
theorem listV_bd {l : List UInt8} {a z : Nat} (ha : a ≤ z) (hz : z ≤ l.length) (hl : l.length ≤ 140737488355328) :
    ((listV l a z).2.1 = 0 → (listV l a z).2.2 = 0 ∧ Row l z a (listV l a z).1) ∧
    ((listV l a z).2.1 ≠ 0 → (listV l a z).1 = [] ∧ 0 < (listV l a z).2.1 ∧ (listV l a z).2.1 ≤ 4 ∧ (a : Int) ≤ (listV l a z).2.2 ∧ (listV l a z).2.2 ≤ z) := by
  have h := elsA_back hz hl (z - a + 1) a [] ha (by omega)
  refine ⟨fun he => ?_, h.2⟩
  obtain ⟨h1, xs, h2, h3⟩ := h.1 he
  rw [List.nil_append] at h2
  refine ⟨h1, ?_⟩
  show Row l z a (elsA l z (z - a + 1) a []).1
  rw [h2]; exact h3
/-- an element's bounds, in a row -/
theorem Row.bd {l : List UInt8} {z : Nat} (hz : z ≤ l.length) (hl : l.length ≤ 140737488355328) : ∀ {xs : List El} {p : Nat}, p ≤ z → Row l z p xs → ∀ x, x ∈ xs → (p : Int) ≤ x.start ∧ x.start + 2 ≤ x.body ∧ x.body ≤ x.stop ∧ x.stop ≤ z := by
  intro xs
  induction xs with
  | nil => intro p _ _ x hx; simp at hx
  | cons y ys ih =>
    intro p hp h x hx
    obtain ⟨h1, h2, h3⟩ := h
    have hb := (elV_bd (l := l) (a := p) (z := z) hp hz hl).2 (by rw [h2])
    rw [h2] at hb
    simp only [] at hb
    rcases List.mem_cons.1 hx with rfl | hx
    · omega
    · have := ih (by omega) h3 x hx
      omega
theorem one_bd {l : List UInt8} (h : (oneV l).2.1 = 0) : (oneV l).2.2 = 0 ∧ (oneV l).1.start = 0 ∧ 2 ≤ (oneV l).1.body ∧ (oneV l).1.body ≤ (oneV l).1.stop ∧ (oneV l).1.stop = l.length := by
  obtain ⟨-, -, h3, -, h5, -, h7⟩ := one_ok h
  rw [h5]
  have hll := (rl_len (encCode_ok h3).2 []).2.1
  exact ⟨rfl, rfl, by simp only []; omega, by simp only []; omega, rfl⟩
/-- what Parts returns -/
def partsV (l : List UInt8) (c n : Int) : List El × Int × Int :=
  if (oneV l).2.1 ≠ 0 then ([], (oneV l).2.1, (oneV l).2.2)
  else if ((oneV l).1.cls = c ∧ (oneV l).1.cons = true) ∧ (oneV l).1.num = n then listV l (oneV l).1.body.toNat (oneV l).1.stop.toNat else ([], 3, 0)
theorem partsV_err {l : List UInt8} {c n : Int} (h : (oneV l).2.1 ≠ 0) : partsV l c n = ([], (oneV l).2.1, (oneV l).2.2) := by unfold partsV; rw [if_pos h]
theorem partsV_tag {l : List UInt8} {c n : Int} (h : ¬ (oneV l).2.1 ≠ 0) (h2 : ¬ (((oneV l).1.cls = c ∧ (oneV l).1.cons = true) ∧ (oneV l).1.num = n)) : partsV l c n = ([], 3, 0) := by unfold partsV; rw [if_neg h, if_neg h2]
theorem partsV_ok {l : List UInt8} {c n : Int} (h : ¬ (oneV l).2.1 ≠ 0) (h2 : ((oneV l).1.cls = c ∧ (oneV l).1.cons = true) ∧ (oneV l).1.num = n) : partsV l c n = listV l (oneV l).1.body.toNat (oneV l).1.stop.toNat := by unfold partsV; rw [if_neg h, if_pos h2]
end Go.Proofs.Ytoomdaljdbennaa.Tlv
