/- Joined texts: PlTree, PlEl, ElA, ElB, ElC, PlList, ElD, ElE. -/
import Derived.Deep.RegionHeld3
import Derived.Deep.DeepFit
import Derived.Test.YtnpmgofkfdpbjaaKU
import Derived.Test.YtnpmgofkfdpbjaaKI
import Derived.Test.YtnpmgofkfdpbjaaKA
set_option linter.unusedSimpArgs false
set_option linter.unusedVariables false
/- Plain laws of trees: what the reference's Read returns; what an encoding reads as. No program in sight. -/
namespace Go.Proofs.Ytnpmgofkfdpbjaa.Tree
open Kit Cur Tlv

/-- a tree -/
inductive T where
  | mk (c n : Int) (b : Bool) (con : List UInt8) (kids : List T)
def T.zero : T := .mk 0 0 false [] []
def T.cls : T → Int | .mk c _ _ _ _ => c
def T.num : T → Int | .mk _ n _ _ _ => n
def T.cons : T → Bool | .mk _ _ b _ _ => b
def T.con : T → List UInt8 | .mk _ _ _ k _ => k
def T.kids : T → List T | .mk _ _ _ _ l => l
/-- what Read returns: a tree, the number of octets, an error's code and offset -/
structure Rt where
  t : T
  size : Int
  code : Int
  off : Int
/-- the trees one behind the other, from a place on -/
def kidsA (rd : List UInt8 → Rt) (l : List UInt8) : Nat → Nat → List T → List T × Int × Int
  | 0, _, acc => (acc, 0, 0)
  | f + 1, p, acc =>
    if l.length ≤ p then (acc, 0, 0)
    else if (rd (l.drop p)).code ≠ 0 then ([], (rd (l.drop p)).code, p + (rd (l.drop p)).off)
    else kidsA rd l f (p + (rd (l.drop p)).size.toNat) (acc ++ [(rd (l.drop p)).t])
def readT : Nat → List UInt8 → Rt
  | 0, _ => ⟨T.zero, 0, 5, 0⟩
  | d + 1, l =>
    if (nx l).code ≠ 0 then ⟨T.zero, 0, (nx l).code, (nx l).off⟩
    else if (nx l).hd.cons = false then ⟨.mk (nx l).hd.cls (nx l).hd.num false (nx l).con [], (nx l).hd.size + (nx l).hd.len, 0, 0⟩
    else if (kidsA (readT d) (nx l).con ((nx l).con.length + 1) 0 []).2.1 ≠ 0 then
      ⟨T.zero, 0, (kidsA (readT d) (nx l).con ((nx l).con.length + 1) 0 []).2.1, (nx l).hd.size + (kidsA (readT d) (nx l).con ((nx l).con.length + 1) 0 []).2.2⟩
    else ⟨.mk (nx l).hd.cls (nx l).hd.num true [] (kidsA (readT d) (nx l).con ((nx l).con.length + 1) 0 []).1, (nx l).hd.size + (nx l).hd.len, 0, 0⟩
/-- what Within returns -/
def withinT (l : List UInt8) (d : Nat) : T × Int × Int :=
  if (readT d l).code = 0 ∧ (readT d l).size < l.length then (T.zero, 2, (readT d l).size) else ((readT d l).t, (readT d l).code, (readT d l).off)

theorem kidsA_end (rd : List UInt8 → Rt) (l : List UInt8) (f p : Nat) (acc : List T) (h : l.length ≤ p) : kidsA rd l f p acc = (acc, 0, 0) := by
  cases f with
  | zero => rfl
  | succ f => unfold kidsA; rw [if_pos h]
theorem kidsA_err {rd : List UInt8 → Rt} {l : List UInt8} {f p : Nat} {acc : List T} (h : p < l.length) (he : (rd (l.drop p)).code ≠ 0) :
    kidsA rd l (f + 1) p acc = ([], (rd (l.drop p)).code, p + (rd (l.drop p)).off) := by
  conv => lhs; unfold kidsA
  rw [if_neg (by omega), if_pos he]
theorem kidsA_step {rd : List UInt8 → Rt} {l : List UInt8} {f p : Nat} {acc : List T} (h : p < l.length) (he : (rd (l.drop p)).code = 0) :
    kidsA rd l (f + 1) p acc = kidsA rd l f (p + (rd (l.drop p)).size.toNat) (acc ++ [(rd (l.drop p)).t]) := by
  conv => lhs; unfold kidsA
  rw [if_neg (by omega), if_neg (by omega)]

theorem readT_err {d : Nat} {l : List UInt8} (h : (nx l).code ≠ 0) : readT (d + 1) l = ⟨T.zero, 0, (nx l).code, (nx l).off⟩ := by
  conv => lhs; unfold readT
  rw [if_pos h]
theorem readT_leaf {d : Nat} {l : List UInt8} (h : ¬ (nx l).code ≠ 0) (h2 : (nx l).hd.cons = false) :
    readT (d + 1) l = ⟨.mk (nx l).hd.cls (nx l).hd.num false (nx l).con [], (nx l).hd.size + (nx l).hd.len, 0, 0⟩ := by
  conv => lhs; unfold readT
  rw [if_neg h, if_pos h2]
theorem readT_kerr {d : Nat} {l : List UInt8} (h : ¬ (nx l).code ≠ 0) (h2 : (nx l).hd.cons = true) (h3 : (kidsA (readT d) (nx l).con ((nx l).con.length + 1) 0 []).2.1 ≠ 0) :
    readT (d + 1) l = ⟨T.zero, 0, (kidsA (readT d) (nx l).con ((nx l).con.length + 1) 0 []).2.1, (nx l).hd.size + (kidsA (readT d) (nx l).con ((nx l).con.length + 1) 0 []).2.2⟩ := by
  conv => lhs; unfold readT
  rw [if_neg h, if_neg (by simp [h2]), if_pos h3]
theorem readT_node {d : Nat} {l : List UInt8} (h : ¬ (nx l).code ≠ 0) (h2 : (nx l).hd.cons = true) (h3 : ¬ (kidsA (readT d) (nx l).con ((nx l).con.length + 1) 0 []).2.1 ≠ 0) :
    readT (d + 1) l = ⟨.mk (nx l).hd.cls (nx l).hd.num true [] (kidsA (readT d) (nx l).con ((nx l).con.length + 1) 0 []).1, (nx l).hd.size + (nx l).hd.len, 0, 0⟩ := by
  conv => lhs; unfold readT
  rw [if_neg h, if_neg (by simp [h2]), if_neg h3]

/-- bounds of what Read returns -/
def RtOk (r : Rt) (n : Nat) : Prop :=
  (r.code = 0 → r.off = 0 ∧ 2 ≤ r.size ∧ r.size ≤ n) ∧ (r.code ≠ 0 → r.t = T.zero ∧ r.size = 0 ∧ 0 < r.code ∧ 0 ≤ r.off ∧ r.off ≤ n)
theorem kidsA_bd {rd : List UInt8 → Rt} {l : List UInt8} (hrd : ∀ m : List UInt8, m.length ≤ l.length → RtOk (rd m) m.length) : ∀ (f p : Nat) (acc : List T), p ≤ l.length →
    ((kidsA rd l f p acc).2.1 = 0 → (kidsA rd l f p acc).2.2 = 0) ∧ ((kidsA rd l f p acc).2.1 ≠ 0 → 0 < (kidsA rd l f p acc).2.1 ∧ 0 ≤ (kidsA rd l f p acc).2.2 ∧ (kidsA rd l f p acc).2.2 ≤ l.length) := by
  intro f
  induction f with
  | zero => intro p acc _; exact ⟨fun _ => rfl, fun h => absurd rfl h⟩
  | succ f ih =>
    intro p acc hp
    rcases Nat.lt_or_ge p l.length with hlt | hge
    · have hb := hrd (l.drop p) (by rw [List.length_drop]; omega)
      rw [List.length_drop] at hb
      by_cases he : (rd (l.drop p)).code ≠ 0
      · rw [kidsA_err hlt he]
        obtain ⟨_, _, b3, b4, b5⟩ := hb.2 he
        exact ⟨fun h => absurd h he, fun _ => ⟨b3, by simp only []; omega, by simp only []; omega⟩⟩
      · rw [kidsA_step hlt (by omega)]
        obtain ⟨_, b2, b3⟩ := hb.1 (by omega)
        exact ih _ _ (by omega)
    · rw [kidsA_end _ _ _ _ _ hge]
      exact ⟨fun _ => rfl, fun h => absurd rfl h⟩
theorem readT_bd : ∀ (d : Nat) (l : List UInt8), l.length ≤ 140737488355328 → RtOk (readT d l) l.length := by
  intro d
  induction d with
  | zero => intro l _; exact ⟨fun h => by simp [readT] at h, fun _ => ⟨rfl, rfl, by simp [readT], by simp [readT], by simp [readT]⟩⟩
  | succ d ih =>
    intro l hl
    by_cases h : (nx l).code ≠ 0
    · rw [readT_err h]
      obtain ⟨_, _, _, e1, e2, e3⟩ := nx_err hl h
      exact ⟨fun h' => absurd h' h, fun _ => ⟨rfl, rfl, e1, e2, e3⟩⟩
    · obtain ⟨b1, b2, b3, b4, b5⟩ := nx_back (by omega : (nx l).code = 0)
      have el := enc_len (b := (nx l).hd.cons) b1
      have hln := congrArg List.length b2
      rw [List.length_append, el] at hln
      have hll := (rl_len (encCode_ok b1).2 []).2.1
      have hs : 2 ≤ (nx l).hd.size + (nx l).hd.len ∧ (nx l).hd.size + (nx l).hd.len ≤ l.length := by rw [b4, b5]; omega
      cases h2 : (nx l).hd.cons with
      | false => rw [readT_leaf h h2]; exact ⟨fun _ => ⟨rfl, hs.1, hs.2⟩, fun h' => absurd rfl h'⟩
      | true =>
        have kb := kidsA_bd (rd := readT d) (l := (nx l).con) (fun m hm => ih m (by omega)) ((nx l).con.length + 1) 0 [] (Nat.zero_le _)
        by_cases h3 : (kidsA (readT d) (nx l).con ((nx l).con.length + 1) 0 []).2.1 ≠ 0
        · rw [readT_kerr h h2 h3]
          obtain ⟨k1, k2, k3⟩ := kb.2 h3
          exact ⟨fun h' => absurd h' h3, fun _ => ⟨rfl, rfl, k1, by simp only []; omega, by simp only []; omega⟩⟩
        · rw [readT_node h h2 h3]
          exact ⟨fun _ => ⟨rfl, hs.1, hs.2⟩, fun h' => absurd rfl h'⟩

/-- a primitive element, read as a tree -/
theorem readT_prim {c n : Int} {k : List UInt8} (d : Nat) (h : encCode c n k.length = 0) (more : List UInt8) :
    readT (d + 1) (encL c false n k ++ more) = ⟨.mk c n false k [], ((encL c false n k).length : Int), 0, 0⟩ := by
  have hx := nx_enc (b := false) h more
  have el := enc_len (b := false) h
  have hc : (nx (encL c false n k ++ more)).code = 0 := by rw [hx]
  rw [readT_leaf (by omega) (by rw [hx]), hx, el]
  simp
/-- encodings one behind the other -/
def catE : List (T × List UInt8) → List UInt8
  | [] => []
  | x :: l => x.2 ++ catE l
theorem kidsA_enc {rd : List UInt8 → Rt} : ∀ (ls : List (T × List UInt8)) (pre : List UInt8) (acc : List T) (f : Nat),
    (∀ x, x ∈ ls → 1 ≤ x.2.length ∧ ∀ more, rd (x.2 ++ more) = ⟨x.1, (x.2.length : Int), 0, 0⟩) → (catE ls).length ≤ f →
    kidsA rd (pre ++ catE ls) f pre.length acc = (acc ++ ls.map (·.1), 0, 0) := by
  intro ls
  induction ls with
  | nil => intro pre acc f _ _; rw [kidsA_end _ _ _ _ _ (by simp [catE])]; simp
  | cons x ls ih =>
    intro pre acc f hx hf
    obtain ⟨h1, h2⟩ := hx x (by simp)
    simp only [catE, List.length_append] at hf
    cases f with
    | zero => omega
    | succ f =>
      have hd : (pre ++ catE (x :: ls)).drop pre.length = x.2 ++ catE ls := by rw [List.drop_left' rfl]; rfl
      have hr := h2 (catE ls)
      rw [kidsA_step (by simp [catE]; omega) (by rw [hd, hr]), hd, hr]
      simp only [Int.toNat_natCast]
      have := ih (pre ++ x.2) (acc ++ [x.1]) f (fun y hy => hx y (by simp [hy])) (by omega)
      rw [List.length_append, List.append_assoc] at this
      rw [show pre ++ catE (x :: ls) = pre ++ (x.2 ++ catE ls) from rfl, this]
      simp
/-- a constructed element, read as a tree -/
theorem readT_cons {c n : Int} (ls : List (T × List UInt8)) (d : Nat) (h : encCode c n (catE ls).length = 0)
    (hx : ∀ x, x ∈ ls → 1 ≤ x.2.length ∧ ∀ more, readT d (x.2 ++ more) = ⟨x.1, (x.2.length : Int), 0, 0⟩) (more : List UInt8) :
    readT (d + 1) (encL c true n (catE ls) ++ more) = ⟨.mk c n true [] (ls.map (·.1)), ((encL c true n (catE ls)).length : Int), 0, 0⟩ := by
  have hxx := nx_enc (b := true) h more
  have el := enc_len (b := true) h
  have hc : (nx (encL c true n (catE ls) ++ more)).code = 0 := by rw [hxx]
  have hk := kidsA_enc ls [] [] ((catE ls).length + 1) hx (by omega)
  simp only [List.nil_append, List.length_nil] at hk
  rw [readT_node (by omega) (by rw [hxx]) (by rw [hxx]; simp only []; rw [hk]; simp), hxx, el]
  simp only []
  rw [hk]
  simp
theorem withinT_enc {e : List UInt8} {t : T} {d : Nat} (h : ∀ more, readT d (e ++ more) = ⟨t, (e.length : Int), 0, 0⟩) : withinT e d = (t, 0, 0) := by
  have := h []
  rw [List.append_nil] at this
  unfold withinT
  rw [this, if_neg (by simp)]
end Go.Proofs.Ytnpmgofkfdpbjaa.Tree
/- Plain laws of elements in a slice: the next one, the only one, their list. No program in sight. -/
namespace Go.Proofs.Ytnpmgofkfdpbjaa.Tlv
open Kit Cur

/-- an element in a slice -/
structure El where
  cls : Int
  num : Int
  cons : Bool
  start : Int
  body : Int
  stop : Int
def El.zero : El := ⟨0, 0, false, 0, 0, 0⟩
/-- what next returns: an element, an error's code and offset -/
def elV (l : List UInt8) (a z : Nat) : El × Int × Int :=
  let r := rh ((l.drop a).take (z - a))
  if r.2.1 ≠ 0 then (El.zero, r.2.1, r.2.2 + a)
  else if (z : Int) - a - r.1.size < r.1.len then (El.zero, 1, z)
  else (⟨r.1.cls, r.1.num, r.1.cons, a, a + r.1.size, a + r.1.size + r.1.len⟩, 0, 0)
theorem elV_bad {l : List UInt8} {a z : Nat} (h : (rh ((l.drop a).take (z - a))).2.1 ≠ 0) : elV l a z = (El.zero, (rh ((l.drop a).take (z - a))).2.1, (rh ((l.drop a).take (z - a))).2.2 + a) := by
  unfold elV; simp only []; rw [if_pos h]
theorem elV_short {l : List UInt8} {a z : Nat} (h : ¬ (rh ((l.drop a).take (z - a))).2.1 ≠ 0) (h2 : (z : Int) - a - (rh ((l.drop a).take (z - a))).1.size < (rh ((l.drop a).take (z - a))).1.len) : elV l a z = (El.zero, 1, (z : Int)) := by
  unfold elV; simp only []; rw [if_neg h, if_pos h2]
theorem elV_ok {l : List UInt8} {a z : Nat} (h : ¬ (rh ((l.drop a).take (z - a))).2.1 ≠ 0) (h2 : ¬ (z : Int) - a - (rh ((l.drop a).take (z - a))).1.size < (rh ((l.drop a).take (z - a))).1.len) :
    elV l a z = (⟨(rh ((l.drop a).take (z - a))).1.cls, (rh ((l.drop a).take (z - a))).1.num, (rh ((l.drop a).take (z - a))).1.cons, a, a + (rh ((l.drop a).take (z - a))).1.size, a + (rh ((l.drop a).take (z - a))).1.size + (rh ((l.drop a).take (z - a))).1.len⟩, 0, 0) := by
  unfold elV; simp only []; rw [if_neg h, if_neg h2]
/-- bounds of what next returns -/
theorem elV_bd {l : List UInt8} {a z : Nat} (ha : a ≤ z) (hz : z ≤ l.length) (hl : l.length ≤ 140737488355328) :
    ((elV l a z).2.1 ≠ 0 → (elV l a z).1 = El.zero ∧ 0 < (elV l a z).2.1 ∧ (elV l a z).2.1 ≤ 4 ∧ (a : Int) ≤ (elV l a z).2.2 ∧ (elV l a z).2.2 ≤ z) ∧
    ((elV l a z).2.1 = 0 → (elV l a z).2.2 = 0 ∧ (elV l a z).1.start = a ∧ (a : Int) + 2 ≤ (elV l a z).1.body ∧ (elV l a z).1.body ≤ (elV l a z).1.stop ∧ (elV l a z).1.stop ≤ z) := by
  have hs : ((l.drop a).take (z - a)).length = z - a := by rw [List.length_take, List.length_drop]; omega
  obtain ⟨d1, d2, d3, d4, d5, d6, d7, d8⟩ := rh_bd ((l.drop a).take (z - a)) (by omega)
  rw [hs] at d8
  by_cases h : (rh ((l.drop a).take (z - a))).2.1 ≠ 0
  · rw [elV_bad h]
    exact ⟨fun _ => ⟨rfl, by simp only []; omega, by simp only []; omega, by simp only []; omega, by simp only []; omega⟩, fun h' => absurd h' h⟩
  · by_cases h2 : (z : Int) - a - (rh ((l.drop a).take (z - a))).1.size < (rh ((l.drop a).take (z - a))).1.len
    · rw [elV_short h h2]
      exact ⟨fun _ => ⟨rfl, by simp only []; omega, by simp only []; omega, by simp only []; omega, by simp only []; omega⟩, fun h' => by simp at h'⟩
    · rw [elV_ok h h2]
      obtain ⟨k0, k1, k2, k3⟩ := rh_ok (by omega : (rh ((l.drop a).take (z - a))).2.1 = 0)
      have hr := rl_read k2
      have hsz : 2 ≤ (rh ((l.drop a).take (z - a))).1.size := by rw [k3]; simp only []; omega
      exact ⟨fun h' => absurd rfl h', fun _ => ⟨rfl, rfl, by simp only []; omega, by simp only []; omega, by simp only []; omega⟩⟩
/-- what One returns -/
def oneV (l : List UInt8) : El × Int × Int :=
  if (elV l 0 l.length).2.1 = 0 ∧ (elV l 0 l.length).1.stop < l.length then (El.zero, 2, (elV l 0 l.length).1.stop) else elV l 0 l.length
theorem elV_full (l : List UInt8) : elV l 0 l.length = if (nx l).code ≠ 0 then (El.zero, (nx l).code, (nx l).off) else (⟨(nx l).hd.cls, (nx l).hd.num, (nx l).hd.cons, 0, (nx l).hd.size, (nx l).hd.size + (nx l).hd.len⟩, 0, 0) := by
  have e : (l.drop 0).take (l.length - 0) = l := by rw [List.drop_zero, Nat.sub_zero, List.take_of_length_le (Nat.le_refl _)]
  unfold elV nx
  rw [e]
  simp only []
  by_cases h : (rh l).2.1 ≠ 0
  · rw [if_pos h, if_pos h]
    simp only []
    rw [if_pos h]
    simp
  · rw [if_neg h, if_neg h]
    by_cases h2 : (l.length : Int) - (rh l).1.size < (rh l).1.len
    · rw [if_pos (by omega), if_pos h2]; simp
    · rw [if_neg (by omega), if_neg h2]; simp
/-- the element that the whole is -/
theorem one_ok {l : List UInt8} (h : (oneV l).2.1 = 0) : (nx l).code = 0 ∧ (nx l).rest = [] ∧ encCode (nx l).hd.cls (nx l).hd.num (nx l).con.length = 0 ∧ encL (nx l).hd.cls (nx l).hd.cons (nx l).hd.num (nx l).con = l ∧
    oneV l = (⟨(nx l).hd.cls, (nx l).hd.num, (nx l).hd.cons, 0, ((1 + (lenL (nx l).con.length).length : Nat) : Int), (l.length : Int)⟩, 0, 0) ∧ (l.drop (1 + (lenL (nx l).con.length).length)) = (nx l).con ∧ 1 + (lenL (nx l).con.length).length + (nx l).con.length = l.length := by
  unfold oneV at h ⊢
  rw [elV_full] at h ⊢
  by_cases hc : (nx l).code ≠ 0
  · rw [if_pos hc] at h
    simp only [] at h
    rw [if_neg (by simp [hc])] at h
    simp only [] at h
    omega
  · rw [if_neg hc] at h ⊢
    obtain ⟨b1, b2, b3, b4, b5⟩ := nx_back (by omega : (nx l).code = 0)
    have el := enc_len (b := (nx l).hd.cons) b1
    have hl := congrArg List.length b2
    rw [List.length_append, el] at hl
    simp only [] at h ⊢
    by_cases hs : (nx l).hd.size + (nx l).hd.len < l.length
    · rw [if_pos ⟨trivial, hs⟩] at h; simp at h
    · have hr : (nx l).rest = [] := List.eq_nil_of_length_eq_zero (by omega)
      rw [if_neg (by simp; omega)]
      rw [hr, List.append_nil] at b2
      rw [hr] at hl
      simp only [List.length_nil] at hl
      refine ⟨by omega, hr, b1, b2, ?_, ?_, by omega⟩
      · rw [b5, b4, ← hl]; simp
      · obtain ⟨i1, i2⟩ := encCode_ok b1
        have h3 := congrArg (List.drop (1 + (lenL (nx l).con.length).length)) b2
        rw [(enc_ok _ _ i1 i2).1] at h3
        rw [Nat.add_comm 1] at h3 ⊢
        rw [List.drop_succ_cons, List.drop_left' rfl] at h3
        exact h3.symm
theorem one_err {l : List UInt8} (hl : l.length ≤ 140737488355328) (h : (oneV l).2.1 ≠ 0) : (oneV l).1 = El.zero ∧ 0 < (oneV l).2.1 ∧ 0 ≤ (oneV l).2.2 ∧ (oneV l).2.2 ≤ l.length := by
  have hb := elV_bd (l := l) (a := 0) (z := l.length) (by omega) (Nat.le_refl _) hl
  unfold oneV at h ⊢
  by_cases hc : (elV l 0 l.length).2.1 = 0 ∧ (elV l 0 l.length).1.stop < l.length
  · rw [if_pos hc] at h ⊢
    have := hb.2 hc.1
    exact ⟨rfl, by simp only []; omega, by simp only []; omega, by simp only []; omega⟩
  · rw [if_neg hc] at h ⊢
    obtain ⟨a1, a2, a3, a4, a5⟩ := hb.1 h
    exact ⟨a1, a2, by omega, a5⟩
/-- an element, read as the whole -/
theorem one_enc {c n : Int} {b : Bool} {k : List UInt8} (h : encCode c n k.length = 0) : oneV (encL c b n k) = (⟨c, n, b, 0, 1 + ((lenL k.length).length : Int), ((encL c b n k).length : Int)⟩, 0, 0) := by
  have hx := nx_enc (b := b) h []
  rw [List.append_nil] at hx
  have el := enc_len (b := b) h
  have e : elV (encL c b n k) 0 (encL c b n k).length = (⟨c, n, b, 0, 1 + ((lenL k.length).length : Int), 1 + ((lenL k.length).length : Int) + (k.length : Int)⟩, 0, 0) := by
    rw [elV_full, hx]
    simp
  unfold oneV
  rw [e]
  have hn : ¬ ((0 : Int) = 0 ∧ 1 + ((lenL k.length).length : Int) + (k.length : Int) < ((encL c b n k).length : Int)) := by rw [el]; omega
  rw [if_neg hn, el]
  congr 2
end Go.Proofs.Ytnpmgofkfdpbjaa.Tlv
/- Walks: Wrap, Is, next, One of the package element; Put of the reference. -/
namespace Go.Proofs.Ytnpmgofkfdpbjaa.Tlv
open Go.RowKit Kit

/-- what Wrap returns -/
def EncP (w : World) (c : Int) (b : Bool) (n : Int) (u : List UInt8) (e : Ending) (w' : World) : Prop :=
  ∃ A' c', e = .returned (.tuple #[.slice A' (encL c b n u).length c', .int .i64 (encCode c n u.length)]) ∧ Own w' w.heap.size A' (encL c b n u).length c' (encL c b n u) ∧ Below w.heap.size w w'

set_option maxHeartbeats 2000000 in
theorem wrap_any {P : Option Addr} {m cc k : Nat} {u : List UInt8} (c n : Int) (b : Bool) (w : World) (hcat : Calls Try.prog 134 #[.slice P m cc] w (Cur.CatP w k u)) (hk : k ≤ 140737488355000) :
    Calls Try.prog 82 #[.int .i64 c, .bool b, .int .i64 n, .slice P m cc] w (EncP w c b n u) := by
  have HC := Lib.hid hcat
  clear hcat
  go_enter Try.func82, Try.ntmps82
  go_wp2_with fail
  refine HC.out.mono ?_
  rintro e w1 ⟨A1, c1, rfl, ho, hb⟩
  have EN := Lib.hid (encode_any (cp := c1) c n b w1 ho.rd (Nat.le_refl _) hk)
  clear HC ho
  go_wp2_with fail
  refine EN.out.mono ?_
  rintro e w2 ⟨A2, c2, rfl, ho2, hb2⟩
  go_wp2_with fail
  go_ret2
  exact ⟨A2, c2, rfl, ho2.mono hb.size, hb.trans (hb2.mono hb.size)⟩
/-- one part, laid just now -/
theorem cat_one {A : Option Addr} {n c B cc : Nat} {l : List UInt8} {t : TypeId} (X : World) (S : Nat) (hr : Rd X B A n l) (hB : B ≤ X.heap.size) (hS : X.heap.size = S) (hn : n ≤ 140737488355000) :
    Calls Try.prog 134 #[.slice (some ⟨S, 0, none⟩) 1 cc] (X.alloc (.cells #[.slice A n c] t)) (Cur.CatP (X.alloc (.cells #[.slice A n c] t)) n l) := by
  have h := Cur.concatN_any (P := some ⟨S, 0, none⟩) (g := S) (m := 1) (cc := cc) (B := B) (fun _ => A) (fun _ => n) (fun _ => c) (fun _ => l) (X.alloc (.cells #[.slice A n c] t)) (.inr rfl) (fun _ => by simp; omega)
    (fun k hk => by
      obtain rfl : k = 0 := by omega
      rw [cell_of_row _ S 0 _ _ _ (bk_new hS.symm)]; rfl) (fun k hk => hr.alloc hB _) (by simp; omega) (by simp [Cur.tot]; omega) (by omega)
  simpa [Cur.tot, Cur.catF] using h

/-- the reference's Put -/
def putL (x : Int) (l : List UInt8) : List UInt8 := ofI x :: (lenL l.length ++ l)
theorem put_enc {c n : Int} {b : Bool} {l : List UInt8} (h : encCode c n l.length = 0) : putL (idByte c b n) l = encL c b n l := by
  obtain ⟨h1, h2⟩ := encCode_ok h
  rw [(enc_ok b l h1 h2).1]; rfl

set_option maxHeartbeats 2000000 in
theorem put_any {A : Option Addr} {n c B : Nat} {l : List UInt8} (x : Int) (w : World) (hr : Rd w B A n l) (hB : B ≤ w.heap.size) (hx0 : 0 ≤ x) (hx1 : x ≤ 255) (hn : n ≤ 140737488355000) :
    Calls Try.prog 84 #[.int .u8 x, .slice A n c] w (Int4.OwnP w (putL x l)) := by
  have hl := hr.len
  have LN := Lib.hid (fun w => reflength_any (n : Int) w)
  have PL := Lib.hid (show putL x l = [ofI x] ++ lenL (n : Int) ++ l from by unfold putL; rw [hl]; simp)
  have lb := len_bd (n : Int)
  generalize putL x l = u at *
  generalize lenL (n : Int) = L at *
  generalize lenCode (n : Int) = lc at *
  obtain ⟨m, hm⟩ : ∃ m, L.length = m := ⟨_, rfl⟩
  rw [hm] at LN lb
  have HM := Lib.hid hm
  have HR := Lib.hid hr
  have HL := Lib.hid hl
  clear hr hm hl
  go_enter Try.func84, Try.ntmps84
  go_wp2_with fail
  refine (LN.out _).mono ?_
  rintro e w1 ⟨A1, c1, rfl, ho, hb⟩
  have zs := hb.size
  have ow := lit1 (base := w.heap.size) w1 x hx0 hx1 zs
  have r1 := ho.rd.alloc (Nat.le_refl _) (.cells #[.int .u8 x] 5)
  have r2 := (HR.out.below (hb.mono hB)).alloc (by omega) (.cells #[.int .u8 x] 5)
  have bel1 := hb.alloc zs (.cells #[.int .u8 x] 5)
  clear ho HR LN
  go_wp2_with (first | (at_builtin; refine app rfl (.tmp 14) (.tmp 15) rfl rfl ow rfl r1 (by omega) bel1.size ?_; intro A2 c2 w2 ho2 hg2 hb2 hs2) | (at_builtin; refine app rfl (.tmp 16) (.tmp 17) rfl rfl ho2 rfl (r2.below (hb2.mono (by omega))) (by omega) (bel1.trans hb2).size ?_; intro A3 c3 w3 ho3 hg3 hb3 hs3))
  go_ret
  exact Int4.OwnP.mk PL.out (by rw [List.length_append, List.length_append, HM.out, HL.out]; rfl) rfl ho3 ((bel1.trans hb2).trans hb3)

/-- does an element have a tag? -/
def isB (x : El) (c : Int) (b : Bool) (n : Int) : Bool := decide (x.cls = c) && decide (x.cons = b) && decide (x.num = n)
abbrev elT (x : El) : Value := .agg #[.int .i64 x.cls, .int .i64 x.num, .bool x.cons, .int .i64 x.start, .int .i64 x.body, .int .i64 x.stop]

set_option maxHeartbeats 2000000 in
theorem is_any (x0 x1 x3 x4 x5 : Int) (x2 : Bool) (c : Int) (b : Bool) (n : Int) (w : World) :
    Calls Try.prog 89 #[.agg #[.int .i64 x0, .int .i64 x1, .bool x2, .int .i64 x3, .int .i64 x4, .int .i64 x5], .int .i64 c, .bool b, .int .i64 n] w fun e w' => e = .returned (.bool (isB ⟨x0, x1, x2, x3, x4, x5⟩ c b n)) ∧ Below w.heap.size w w' := by
  have F := Lib.hid (show isB ⟨x0, x1, x2, x3, x4, x5⟩ c b n = (decide (x0 = c) && decide (x2 = b) && decide (x1 = n)) from rfl)
  by_cases h0 : x0 = c
  · subst h0
    by_cases h2 : x2 = b
    · subst h2
      by_cases h1 : x1 = n
      · subst h1
        go_enter Try.func89, Try.ntmps89
        go_wp2
        go_ret
        exact ⟨ret_bool (by rw [F.out]; simp), (by repeat' (first | (with_reducible exact Below.refl _ _) | (with_reducible assumption) | (with_reducible refine below_drewN ?_ _) | (with_reducible refine Below.drew ?_) | (with_reducible refine Below.alloc ?_ ?_ _) | (with_reducible refine Below.setCell ?_ ?_ _) | go_size))⟩
      · go_enter Try.func89, Try.ntmps89
        go_wp2
        go_ret
        exact ⟨ret_bool (by rw [F.out]; simp [h1]), (by repeat' (first | (with_reducible exact Below.refl _ _) | (with_reducible assumption) | (with_reducible refine below_drewN ?_ _) | (with_reducible refine Below.drew ?_) | (with_reducible refine Below.alloc ?_ ?_ _) | (with_reducible refine Below.setCell ?_ ?_ _) | go_size))⟩
    · have h2' : (x2 == b) = false := by simpa using h2
      have F' := Lib.hid (show isB ⟨x0, x1, x2, x3, x4, x5⟩ x0 b n = false from by rw [F.out]; simp [h2])
      clear h2
      go_enter Try.func89, Try.ntmps89
      go_wp2
      go_ret
      exact ⟨ret_bool F'.out.symm, (by repeat' (first | (with_reducible exact Below.refl _ _) | (with_reducible assumption) | (with_reducible refine below_drewN ?_ _) | (with_reducible refine Below.drew ?_) | (with_reducible refine Below.alloc ?_ ?_ _) | (with_reducible refine Below.setCell ?_ ?_ _) | go_size))⟩
  · go_enter Try.func89, Try.ntmps89
    go_wp2
    go_ret
    exact ⟨ret_bool (by rw [F.out]; simp [h0]), (by repeat' (first | (with_reducible exact Below.refl _ _) | (with_reducible assumption) | (with_reducible refine below_drewN ?_ _) | (with_reducible refine Below.drew ?_) | (with_reducible refine Below.alloc ?_ ?_ _) | (with_reducible refine Below.setCell ?_ ?_ _) | go_size))⟩
end Go.Proofs.Ytnpmgofkfdpbjaa.Tlv
/- Walks: next and One of the package element. -/
namespace Go.Proofs.Ytnpmgofkfdpbjaa.Tlv
open Go.RowKit Kit

theorem cells6 {w : World} {b : Nat} {x0 x1 x2 x3 x4 x5 : Value} {t : TypeId} (h : w.heap[b]? = some (.cells #[x0, x1, x2, x3, x4, x5] t (0, 0))) :
    w.cell? ⟨b, 0, none⟩ = some x0 ∧ w.cell? ⟨b, 1, none⟩ = some x1 ∧ w.cell? ⟨b, 2, none⟩ = some x2 ∧ w.cell? ⟨b, 3, none⟩ = some x3 ∧ w.cell? ⟨b, 4, none⟩ = some x4 ∧ w.cell? ⟨b, 5, none⟩ = some x5 := by
  refine ⟨?_, ?_, ?_, ?_, ?_, ?_⟩ <;> (rw [cell_of_row w b _ _ _ _ h]; rfl)
theorem free6 {w : World} {b : Nat} {cs : Array Value} {t : TypeId} (h : w.heap[b]? = some (.cells cs t (0, 0))) :
    w.frozen? ⟨b, 0, none⟩ = false ∧ w.frozen? ⟨b, 1, none⟩ = false ∧ w.frozen? ⟨b, 2, none⟩ = false ∧ w.frozen? ⟨b, 3, none⟩ = false ∧ w.frozen? ⟨b, 4, none⟩ = false ∧ w.frozen? ⟨b, 5, none⟩ = false :=
  ⟨frozen_of_row w b 0 _ _ h, frozen_of_row w b 1 _ _ h, frozen_of_row w b 2 _ _ h, frozen_of_row w b 3 _ _ h, frozen_of_row w b 4 _ _ h, frozen_of_row w b 5 _ _ h⟩
theorem set6 {w : World} {b : Nat} {x0 x1 x2 x3 x4 x5 : Value} {t : TypeId} (y0 y1 y2 y3 y4 y5 : Value) (h : w.heap[b]? = some (.cells #[x0, x1, x2, x3, x4, x5] t (0, 0))) :
    ((((((w.setCell ⟨b, 0, none⟩ y0).setCell ⟨b, 1, none⟩ y1).setCell ⟨b, 2, none⟩ y2).setCell ⟨b, 3, none⟩ y3).setCell ⟨b, 4, none⟩ y4).setCell ⟨b, 5, none⟩ y5).heap[b]? = some (.cells #[y0, y1, y2, y3, y4, y5] t (0, 0)) :=
  heap_setCell_same _ b 5 _ _ y5 (heap_setCell_same _ b 4 _ _ y4 (heap_setCell_same _ b 3 _ _ y3 (heap_setCell_same _ b 2 _ _ y2 (heap_setCell_same _ b 1 _ _ y1 (heap_setCell_same _ b 0 _ _ y0 h)))))
theorem far6 {w : World} {b c : Nat} {o : Obj} (h : w.heap[b]? = some o) (hne : b ≠ c) (y0 y1 y2 y3 y4 y5 : Value) :
    ((((((w.setCell ⟨c, 0, none⟩ y0).setCell ⟨c, 1, none⟩ y1).setCell ⟨c, 2, none⟩ y2).setCell ⟨c, 3, none⟩ y3).setCell ⟨c, 4, none⟩ y4).setCell ⟨c, 5, none⟩ y5).heap[b]? = some o :=
  set_far (set_far (set_far (set_far (set_far (set_far h hne _) hne _) hne _) hne _) hne _) hne _
/-- what next and One return -/
abbrev elR (r : El × Int × Int) : Value := .tuple #[elT r.1, err r.2.1 r.2.2]

set_option maxRecDepth 100000 in
set_option maxHeartbeats 4000000 in
theorem nextel_z {A : Option Addr} {n c B : Nat} {l : List UInt8} (a z : Nat) (w : World) (hr : Rd w B A n l) (hB : B ≤ w.heap.size) (hc : n ≤ c) (hm : c ≤ maxLen) (hn : n ≤ 140737488355328) (ha : a ≤ z) (hz : z ≤ n) (haz : z = a) :
    Calls Try.prog 141 #[.slice A n c, .int .i64 (a : Int), .int .i64 (z : Int)] w fun e w' => e = .returned (elR (elV l a z)) ∧ Below w.heap.size w w' := by
  have hl := hr.len
  have RK := hr.cut (k := a) (m := z) (cap := z) ha hz (Nat.le_refl _)
  simp only [Nat.mul_one] at RK
  have hs := RK.len
  have E1 := Lib.hid (fun h => elV_bad (l := l) (a := a) (z := z) h)
  have E2 := Lib.hid (fun h h2 => elV_short (l := l) (a := a) (z := z) h h2)
  have E3 := Lib.hid (fun h h2 => elV_ok (l := l) (a := a) (z := z) h h2)
  have hm' := hm
  unfold maxLen at hm'
  have ha' : (a : Int) ≤ (z : Int) := by omega
  have hz' : (z : Int) ≤ (c : Int) := by omega
  have hz'' : (z : Int) ≤ (n : Int) := by omega
  obtain ⟨s, hss⟩ : ∃ s, (l.drop a).take (z - a) = s := ⟨_, rfl⟩
  rw [hss] at RK E1 E2 E3 hs
  obtain ⟨d1, d2, d3, d4, d5, d6, d7, d8⟩ := rh_bd s (by omega)
  have HS := Lib.hid hs
  clear hss
  have haz2 := haz.symm; clear haz; subst haz2
  rw [if_pos rfl] at RK
  simp only [Nat.sub_self] at RK HS
  have RH := Lib.hid (fun (X : World) (h : Below w.heap.size w X) => readhead_any (c := 0) X (RK.below (h.mono hB)) (by have := h.size; omega) (Nat.le_refl _) (by omega) (by omega))
  generalize rh s = r at *
  obtain ⟨⟨k1, k2, k3, k4, k5⟩, r1, r2⟩ := r
  simp only [rhV, hdV] at RH E1 E2 E3 d1 d2 d3 d4 d5 d6 d7 d8
  clear hr RK hl
  go_enter Try.func141, Try.ntmps141
  go_upto_region 2 with (first | (go_at_call 160; refine (RH.out _ (((Below.refl _ _).alloc (Nat.le_refl _) _).alloc (by simp) _)).mono ?_; rintro e w1 ⟨rfl, hb⟩))
  obtain ⟨t2, t5, bel⟩ := box2 hb
  have hs2 := hb.size
  simp only [World.size_alloc] at hs2
  replace t2 := bk_old (o' := .cells #[.int .i64 r1, .int .i64 r2] 36) (bk_old (o' := .cells #[.int .i64 k1, .int .i64 k2, .bool k3, .int .i64 k4, .int .i64 k5] 164) t2)
  replace t5 := bk_old (o' := .cells #[.int .i64 r1, .int .i64 r2] 36) (bk_old (o' := .cells #[.int .i64 k1, .int .i64 k2, .bool k3, .int .i64 k4, .int .i64 k5] 164) t5)
  have t6 : ((w1.alloc (.cells #[.int .i64 k1, .int .i64 k2, .bool k3, .int .i64 k4, .int .i64 k5] 164)).alloc (.cells #[.int .i64 r1, .int .i64 r2] 36)).heap[w1.heap.size]? = _ := bk_old (bk_new rfl)
  have t7 : ((w1.alloc (.cells #[.int .i64 k1, .int .i64 k2, .bool k3, .int .i64 k4, .int .i64 k5] 164)).alloc (.cells #[.int .i64 r1, .int .i64 r2] 36)).heap[w1.heap.size + 1]? = _ := bk_new (by simp)
  replace bel := (bel.alloc bel.size (.cells #[.int .i64 k1, .int .i64 k2, .bool k3, .int .i64 k4, .int .i64 k5] 164)).alloc (by simp; have := bel.size; omega) (.cells #[.int .i64 r1, .int .i64 r2] 36)
  have n1 : ¬ w1.heap.size = w.heap.size := by omega
  have n2 : ¬ w1.heap.size = w.heap.size + 1 := by omega
  have n3 : ¬ w.heap.size = w1.heap.size := by omega
  have n4 : ¬ w.heap.size + 1 = w1.heap.size := by omega
  have m1 : ¬ w1.heap.size + 1 = w.heap.size := by omega
  have m2 : ¬ w1.heap.size + 1 = w.heap.size + 1 := by omega
  have m3 : ¬ w.heap.size = w1.heap.size + 1 := by omega
  have m4 : ¬ w.heap.size + 1 = w1.heap.size + 1 := by omega
  have lb7 : w.heap.size ≤ w1.heap.size + 1 := by omega
  clear hb hs2 RH
  generalize hg7 : w1.heap.size + 1 = b7 at *
  generalize hg6 : w1.heap.size = b6 at *
  have n67 : ¬ b7 = b6 := by omega
  have n76 : ¬ b6 = b7 := by omega
  clear hg6 hg7
  generalize (w1.alloc (.cells #[.int .i64 k1, .int .i64 k2, .bool k3, .int .i64 k4, .int .i64 k5] 164)).alloc (.cells #[.int .i64 r1, .int .i64 r2] 36) = w2 at *
  clear w1
  have T2 := Lib.hid t2
  have T5 := Lib.hid t5
  have T7 := Lib.hid t7
  obtain ⟨q0, q1, q2, q3, q4, q5⟩ := cells6 t2
  obtain ⟨f0, f1, f2, f3, f4, f5⟩ := free6 t2
  obtain ⟨s0, s1⟩ := cells2 t5
  obtain ⟨g0, g1, _, _, _⟩ := free5 t5
  obtain ⟨u0, u1, u2, u3, u4⟩ := cells5 t6
  obtain ⟨v0, v1⟩ := cells2 t7
  obtain ⟨h0, h1, _, _, _⟩ := free5 t7
  clear t2 t5 t6 t7
  by_cases hzz : r1 = 0
  · subst hzz
    by_cases hcut : (a : Int) - (a : Int) - k5 < k4
    · have EE := Lib.hid (E2.out (by decide) hcut)
      clear E1 E2 E3
      go_wp2
      clear q0 q1 q2 q3 q4 q5 f0 f1 f2 f3 f4 f5 s0 s1 g0 g1 u0 u1 u2 u3 u4 v0 v1 h0 h1
      have tc := cells6 (far2 (c := w.heap.size + 1) (set6 (.int .i64 0) (.int .i64 0) (.bool false) (.int .i64 0) (.int .i64 0) (.int .i64 0) T2.out) (by omega) (.int .i64 1) (.int .i64 (a : Int)))
      have td := cells2 (set2 (.int .i64 1) (.int .i64 (a : Int)) (far6 (c := w.heap.size) T5.out (by omega) (.int .i64 0) (.int .i64 0) (.bool false) (.int .i64 0) (.int .i64 0) (.int .i64 0)))
      refine bodyPost_ret (v := .tuple #[.agg #[.int .i64 0, .int .i64 0, .bool false, .int .i64 0, .int .i64 0, .int .i64 0], err 1 (a : Int)]) (by simp [results, Try.results141, go_sem, *]) rfl ?_
      exact ⟨by rw [EE.out]; rfl, (by repeat' (first | (with_reducible exact Below.refl _ _) | (with_reducible assumption) | (with_reducible refine below_drewN ?_ _) | (with_reducible refine Below.drew ?_) | (with_reducible refine Below.alloc ?_ ?_ _) | (with_reducible refine Below.setCell ?_ ?_ _) | go_size))⟩
    · have EE := Lib.hid (E3.out (by decide) (by have := hcut; omega))
      clear E1 E2 E3
      go_wp2
      clear q0 q1 q2 q3 q4 q5 f0 f1 f2 f3 f4 f5 s0 s1 g0 g1 u0 u1 u2 u3 u4 v0 v1 h0 h1
      have tc := cells6 (far2 (c := w.heap.size + 1) (set6 (.int .i64 k1) (.int .i64 k2) (.bool k3) (.int .i64 (a : Int)) (.int .i64 ((a : Int) + k5)) (.int .i64 ((a : Int) + k5 + k4)) T2.out) (by omega) (.int .i64 0) (.int .i64 0))
      have td := cells2 (set2 (.int .i64 0) (.int .i64 0) (far6 (c := w.heap.size) T5.out (by omega) (.int .i64 k1) (.int .i64 k2) (.bool k3) (.int .i64 (a : Int)) (.int .i64 ((a : Int) + k5)) (.int .i64 ((a : Int) + k5 + k4))))
      refine bodyPost_ret (v := .tuple #[.agg #[.int .i64 k1, .int .i64 k2, .bool k3, .int .i64 (a : Int), .int .i64 ((a : Int) + k5), .int .i64 ((a : Int) + k5 + k4)], err 0 0]) (by simp [results, Try.results141, go_sem, *]) rfl ?_
      exact ⟨by rw [EE.out], (by repeat' (first | (with_reducible exact Below.refl _ _) | (with_reducible assumption) | (with_reducible refine below_drewN ?_ _) | (with_reducible refine Below.drew ?_) | (with_reducible refine Below.alloc ?_ ?_ _) | (with_reducible refine Below.setCell ?_ ?_ _) | go_size))⟩
  · have EE := Lib.hid (E1.out hzz)
    clear E1 E2 E3
    have wr4 : IntKind.i64.wrap (r2 + (a : Int)) = r2 + (a : Int) := IntWalk.i64_in _ (by omega)
    go_upto_region 4 with fail
    have t7' : (w2.setCell ⟨b7, 1, none⟩ (.int .i64 (r2 + (a : Int)))).heap[b7]? = some (.cells #[.int .i64 r1, .int .i64 (r2 + (a : Int))] 36 (0, 0)) := heap_setCell_same _ b7 1 _ _ _ T7.out
    obtain ⟨vv0, vv1⟩ := cells2 t7'
    clear t7'
    go_region_held3 (fun w' => w'.cell? ⟨b7, 0, none⟩ = some (.int .i64 r1) ∧ w'.cell? ⟨b7, 1, none⟩ = some (.int .i64 (r2 + (a : Int)))) (go_keep) (fail)
    rename_i hheld
    clear hheld
    go_wp2
    clear q0 q1 q2 q3 q4 q5 f0 f1 f2 f3 f4 f5 s0 s1 g0 g1 u0 u1 u2 u3 u4 v0 v1 h0 h1
    have tc := cells6 (far2 (c := w.heap.size + 1) (set6 (.int .i64 0) (.int .i64 0) (.bool false) (.int .i64 0) (.int .i64 0) (.int .i64 0) (set_far (c := b7) (k := 1) T2.out (by omega) (.int .i64 (r2 + (a : Int))))) (by omega) (.int .i64 r1) (.int .i64 (r2 + (a : Int))))
    have td := cells2 (set2 (.int .i64 r1) (.int .i64 (r2 + (a : Int))) (far6 (c := w.heap.size) (set_far (c := b7) (k := 1) T5.out (by omega) (.int .i64 (r2 + (a : Int)))) (by omega) (.int .i64 0) (.int .i64 0) (.bool false) (.int .i64 0) (.int .i64 0) (.int .i64 0)))
    refine bodyPost_ret (v := .tuple #[.agg #[.int .i64 0, .int .i64 0, .bool false, .int .i64 0, .int .i64 0, .int .i64 0], err r1 (r2 + (a : Int))]) (by simp [results, Try.results141, go_sem, *]) rfl ?_
    exact ⟨by rw [EE.out]; rfl, (by repeat' (first | (with_reducible exact Below.refl _ _) | (with_reducible assumption) | (with_reducible refine below_drewN ?_ _) | (with_reducible refine Below.drew ?_) | (with_reducible refine Below.alloc ?_ ?_ _) | (with_reducible refine Below.setCell ?_ ?_ _) | go_size))⟩

set_option maxRecDepth 100000 in
set_option maxHeartbeats 4000000 in
theorem nextel_lt {A : Option Addr} {n c B : Nat} {l : List UInt8} (a z : Nat) (w : World) (hr : Rd w B A n l) (hB : B ≤ w.heap.size) (hc : n ≤ c) (hm : c ≤ maxLen) (hn : n ≤ 140737488355328) (ha : a ≤ z) (hz : z ≤ n) (haz : ¬ z = a) :
    Calls Try.prog 141 #[.slice A n c, .int .i64 (a : Int), .int .i64 (z : Int)] w fun e w' => e = .returned (elR (elV l a z)) ∧ Below w.heap.size w w' := by
  have hl := hr.len
  have RK := hr.cut (k := a) (m := z) (cap := z) ha hz (Nat.le_refl _)
  simp only [Nat.mul_one] at RK
  have hs := RK.len
  have E1 := Lib.hid (fun h => elV_bad (l := l) (a := a) (z := z) h)
  have E2 := Lib.hid (fun h h2 => elV_short (l := l) (a := a) (z := z) h h2)
  have E3 := Lib.hid (fun h h2 => elV_ok (l := l) (a := a) (z := z) h h2)
  have hm' := hm
  unfold maxLen at hm'
  have ha' : (a : Int) ≤ (z : Int) := by omega
  have hz' : (z : Int) ≤ (c : Int) := by omega
  have hz'' : (z : Int) ≤ (n : Int) := by omega
  obtain ⟨s, hss⟩ : ∃ s, (l.drop a).take (z - a) = s := ⟨_, rfl⟩
  rw [hss] at RK E1 E2 E3 hs
  obtain ⟨d1, d2, d3, d4, d5, d6, d7, d8⟩ := rh_bd s (by omega)
  have HS := Lib.hid hs
  clear hss
  rw [if_neg haz] at RK
  obtain ⟨ad, rfl, _, _⟩ := hr.all_ (by omega)
  simp only [Option.map_some] at RK
  have RH := Lib.hid (fun (X : World) (h : Below w.heap.size w X) => readhead_any (c := z - a) X (RK.below (h.mono hB)) (by have := h.size; omega) (Nat.le_refl _) (by omega) (by omega))
  generalize rh s = r at *
  obtain ⟨⟨k1, k2, k3, k4, k5⟩, r1, r2⟩ := r
  simp only [rhV, hdV] at RH E1 E2 E3 d1 d2 d3 d4 d5 d6 d7 d8
  clear hr RK hl
  go_enter Try.func141, Try.ntmps141
  go_upto_region 2 with (first | (go_at_call 160; refine (RH.out _ (((Below.refl _ _).alloc (Nat.le_refl _) _).alloc (by simp) _)).mono ?_; rintro e w1 ⟨rfl, hb⟩))
  obtain ⟨t2, t5, bel⟩ := box2 hb
  have hs2 := hb.size
  simp only [World.size_alloc] at hs2
  replace t2 := bk_old (o' := .cells #[.int .i64 r1, .int .i64 r2] 36) (bk_old (o' := .cells #[.int .i64 k1, .int .i64 k2, .bool k3, .int .i64 k4, .int .i64 k5] 164) t2)
  replace t5 := bk_old (o' := .cells #[.int .i64 r1, .int .i64 r2] 36) (bk_old (o' := .cells #[.int .i64 k1, .int .i64 k2, .bool k3, .int .i64 k4, .int .i64 k5] 164) t5)
  have t6 : ((w1.alloc (.cells #[.int .i64 k1, .int .i64 k2, .bool k3, .int .i64 k4, .int .i64 k5] 164)).alloc (.cells #[.int .i64 r1, .int .i64 r2] 36)).heap[w1.heap.size]? = _ := bk_old (bk_new rfl)
  have t7 : ((w1.alloc (.cells #[.int .i64 k1, .int .i64 k2, .bool k3, .int .i64 k4, .int .i64 k5] 164)).alloc (.cells #[.int .i64 r1, .int .i64 r2] 36)).heap[w1.heap.size + 1]? = _ := bk_new (by simp)
  replace bel := (bel.alloc bel.size (.cells #[.int .i64 k1, .int .i64 k2, .bool k3, .int .i64 k4, .int .i64 k5] 164)).alloc (by simp; have := bel.size; omega) (.cells #[.int .i64 r1, .int .i64 r2] 36)
  have n1 : ¬ w1.heap.size = w.heap.size := by omega
  have n2 : ¬ w1.heap.size = w.heap.size + 1 := by omega
  have n3 : ¬ w.heap.size = w1.heap.size := by omega
  have n4 : ¬ w.heap.size + 1 = w1.heap.size := by omega
  have m1 : ¬ w1.heap.size + 1 = w.heap.size := by omega
  have m2 : ¬ w1.heap.size + 1 = w.heap.size + 1 := by omega
  have m3 : ¬ w.heap.size = w1.heap.size + 1 := by omega
  have m4 : ¬ w.heap.size + 1 = w1.heap.size + 1 := by omega
  have lb7 : w.heap.size ≤ w1.heap.size + 1 := by omega
  clear hb hs2 RH
  generalize hg7 : w1.heap.size + 1 = b7 at *
  generalize hg6 : w1.heap.size = b6 at *
  have n67 : ¬ b7 = b6 := by omega
  have n76 : ¬ b6 = b7 := by omega
  clear hg6 hg7
  generalize (w1.alloc (.cells #[.int .i64 k1, .int .i64 k2, .bool k3, .int .i64 k4, .int .i64 k5] 164)).alloc (.cells #[.int .i64 r1, .int .i64 r2] 36) = w2 at *
  clear w1
  have T2 := Lib.hid t2
  have T5 := Lib.hid t5
  have T7 := Lib.hid t7
  obtain ⟨q0, q1, q2, q3, q4, q5⟩ := cells6 t2
  obtain ⟨f0, f1, f2, f3, f4, f5⟩ := free6 t2
  obtain ⟨s0, s1⟩ := cells2 t5
  obtain ⟨g0, g1, _, _, _⟩ := free5 t5
  obtain ⟨u0, u1, u2, u3, u4⟩ := cells5 t6
  obtain ⟨v0, v1⟩ := cells2 t7
  obtain ⟨h0, h1, _, _, _⟩ := free5 t7
  clear t2 t5 t6 t7
  by_cases hzz : r1 = 0
  · subst hzz
    by_cases hcut : (z : Int) - (a : Int) - k5 < k4
    · have EE := Lib.hid (E2.out (by decide) hcut)
      clear E1 E2 E3
      go_wp2
      clear q0 q1 q2 q3 q4 q5 f0 f1 f2 f3 f4 f5 s0 s1 g0 g1 u0 u1 u2 u3 u4 v0 v1 h0 h1
      have tc := cells6 (far2 (c := w.heap.size + 1) (set6 (.int .i64 0) (.int .i64 0) (.bool false) (.int .i64 0) (.int .i64 0) (.int .i64 0) T2.out) (by omega) (.int .i64 1) (.int .i64 (z : Int)))
      have td := cells2 (set2 (.int .i64 1) (.int .i64 (z : Int)) (far6 (c := w.heap.size) T5.out (by omega) (.int .i64 0) (.int .i64 0) (.bool false) (.int .i64 0) (.int .i64 0) (.int .i64 0)))
      refine bodyPost_ret (v := .tuple #[.agg #[.int .i64 0, .int .i64 0, .bool false, .int .i64 0, .int .i64 0, .int .i64 0], err 1 (z : Int)]) (by simp [results, Try.results141, go_sem, *]) rfl ?_
      exact ⟨by rw [EE.out]; rfl, (by repeat' (first | (with_reducible exact Below.refl _ _) | (with_reducible assumption) | (with_reducible refine below_drewN ?_ _) | (with_reducible refine Below.drew ?_) | (with_reducible refine Below.alloc ?_ ?_ _) | (with_reducible refine Below.setCell ?_ ?_ _) | go_size))⟩
    · have EE := Lib.hid (E3.out (by decide) (by have := hcut; omega))
      clear E1 E2 E3
      go_wp2
      clear q0 q1 q2 q3 q4 q5 f0 f1 f2 f3 f4 f5 s0 s1 g0 g1 u0 u1 u2 u3 u4 v0 v1 h0 h1
      have tc := cells6 (far2 (c := w.heap.size + 1) (set6 (.int .i64 k1) (.int .i64 k2) (.bool k3) (.int .i64 (a : Int)) (.int .i64 ((a : Int) + k5)) (.int .i64 ((a : Int) + k5 + k4)) T2.out) (by omega) (.int .i64 0) (.int .i64 0))
      have td := cells2 (set2 (.int .i64 0) (.int .i64 0) (far6 (c := w.heap.size) T5.out (by omega) (.int .i64 k1) (.int .i64 k2) (.bool k3) (.int .i64 (a : Int)) (.int .i64 ((a : Int) + k5)) (.int .i64 ((a : Int) + k5 + k4))))
      refine bodyPost_ret (v := .tuple #[.agg #[.int .i64 k1, .int .i64 k2, .bool k3, .int .i64 (a : Int), .int .i64 ((a : Int) + k5), .int .i64 ((a : Int) + k5 + k4)], err 0 0]) (by simp [results, Try.results141, go_sem, *]) rfl ?_
      exact ⟨by rw [EE.out], (by repeat' (first | (with_reducible exact Below.refl _ _) | (with_reducible assumption) | (with_reducible refine below_drewN ?_ _) | (with_reducible refine Below.drew ?_) | (with_reducible refine Below.alloc ?_ ?_ _) | (with_reducible refine Below.setCell ?_ ?_ _) | go_size))⟩
  · have EE := Lib.hid (E1.out hzz)
    clear E1 E2 E3
    have wr4 : IntKind.i64.wrap (r2 + (a : Int)) = r2 + (a : Int) := IntWalk.i64_in _ (by omega)
    go_upto_region 4 with fail
    have t7' : (w2.setCell ⟨b7, 1, none⟩ (.int .i64 (r2 + (a : Int)))).heap[b7]? = some (.cells #[.int .i64 r1, .int .i64 (r2 + (a : Int))] 36 (0, 0)) := heap_setCell_same _ b7 1 _ _ _ T7.out
    obtain ⟨vv0, vv1⟩ := cells2 t7'
    clear t7'
    go_region_held3 (fun w' => w'.cell? ⟨b7, 0, none⟩ = some (.int .i64 r1) ∧ w'.cell? ⟨b7, 1, none⟩ = some (.int .i64 (r2 + (a : Int)))) (go_keep) (fail)
    rename_i hheld
    clear hheld
    go_wp2
    clear q0 q1 q2 q3 q4 q5 f0 f1 f2 f3 f4 f5 s0 s1 g0 g1 u0 u1 u2 u3 u4 v0 v1 h0 h1
    have tc := cells6 (far2 (c := w.heap.size + 1) (set6 (.int .i64 0) (.int .i64 0) (.bool false) (.int .i64 0) (.int .i64 0) (.int .i64 0) (set_far (c := b7) (k := 1) T2.out (by omega) (.int .i64 (r2 + (a : Int))))) (by omega) (.int .i64 r1) (.int .i64 (r2 + (a : Int))))
    have td := cells2 (set2 (.int .i64 r1) (.int .i64 (r2 + (a : Int))) (far6 (c := w.heap.size) (set_far (c := b7) (k := 1) T5.out (by omega) (.int .i64 (r2 + (a : Int)))) (by omega) (.int .i64 0) (.int .i64 0) (.bool false) (.int .i64 0) (.int .i64 0) (.int .i64 0)))
    refine bodyPost_ret (v := .tuple #[.agg #[.int .i64 0, .int .i64 0, .bool false, .int .i64 0, .int .i64 0, .int .i64 0], err r1 (r2 + (a : Int))]) (by simp [results, Try.results141, go_sem, *]) rfl ?_
    exact ⟨by rw [EE.out]; rfl, (by repeat' (first | (with_reducible exact Below.refl _ _) | (with_reducible assumption) | (with_reducible refine below_drewN ?_ _) | (with_reducible refine Below.drew ?_) | (with_reducible refine Below.alloc ?_ ?_ _) | (with_reducible refine Below.setCell ?_ ?_ _) | go_size))⟩


theorem nextel_any {A : Option Addr} {n c B : Nat} {l : List UInt8} (a z : Nat) (w : World) (hr : Rd w B A n l) (hB : B ≤ w.heap.size) (hc : n ≤ c) (hm : c ≤ maxLen) (hn : n ≤ 140737488355328) (ha : a ≤ z) (hz : z ≤ n) :
    Calls Try.prog 141 #[.slice A n c, .int .i64 (a : Int), .int .i64 (z : Int)] w fun e w' => e = .returned (elR (elV l a z)) ∧ Below w.heap.size w w' := by
  by_cases haz : z = a
  · exact nextel_z a z w hr hB hc hm hn ha hz haz
  · exact nextel_lt a z w hr hB hc hm hn ha hz haz
end Go.Proofs.Ytnpmgofkfdpbjaa.Tlv
/- Walks: One of the package element. -/
namespace Go.Proofs.Ytnpmgofkfdpbjaa.Tlv
open Go.RowKit Kit

set_option maxRecDepth 100000 in
set_option maxHeartbeats 4000000 in
theorem one_any {A : Option Addr} {n c B : Nat} {l : List UInt8} (w : World) (hr : Rd w B A n l) (hB : B ≤ w.heap.size) (hc : n ≤ c) (hm : c ≤ maxLen) (hn : n ≤ 140737488355328) :
    Calls Try.prog 88 #[.slice A n c] w fun e w' => e = .returned (elR (oneV l)) ∧ Below w.heap.size w w' := by
  have hl := hr.len
  have NE := Lib.hid (fun (X : World) (h : Rd X B A n l) (hB : B ≤ X.heap.size) => nextel_any (c := c) 0 n X h hB hc hm hn (Nat.zero_le _) (Nat.le_refl _))
  have O1 := Lib.hid (fun h => show oneV l = (El.zero, 2, (elV l 0 l.length).1.stop) from by unfold oneV; rw [if_pos h])
  have O2 := Lib.hid (fun h => show oneV l = elV l 0 l.length from by unfold oneV; rw [if_neg h])
  have bd := elV_bd (l := l) (a := 0) (z := l.length) (by omega) (Nat.le_refl _) (by omega)
  rw [hl] at O1 O2 bd
  have HR := Lib.hid hr
  rw [show ((0 : Nat) : Int) = 0 from rfl] at NE
  generalize elV l 0 n = r at *
  obtain ⟨⟨x0, x1, x2, x3, x4, x5⟩, r1, r2⟩ := r
  simp only [elR, elT] at NE O1 O2 bd
  have BD := Lib.hid bd
  clear hr bd
  go_enter Try.func88, Try.ntmps88
  go_upto_region 2 with (first | (go_at_call 141; refine (NE.out _ ((HR.out.alloc hB _).alloc (by simp; omega) _) (by simp; omega)).mono ?_; rintro e w1 ⟨rfl, hb⟩))
  obtain ⟨t2, t5, bel⟩ := box2 hb
  have hs := hb.size
  simp only [World.size_alloc] at hs
  replace t2 := bk_old (o' := .cells #[.int .i64 r1, .int .i64 r2] 36) (bk_old (o' := .cells #[.int .i64 x0, .int .i64 x1, .bool x2, .int .i64 x3, .int .i64 x4, .int .i64 x5] 93) t2)
  replace t5 := bk_old (o' := .cells #[.int .i64 r1, .int .i64 r2] 36) (bk_old (o' := .cells #[.int .i64 x0, .int .i64 x1, .bool x2, .int .i64 x3, .int .i64 x4, .int .i64 x5] 93) t5)
  have t6 : ((w1.alloc (.cells #[.int .i64 x0, .int .i64 x1, .bool x2, .int .i64 x3, .int .i64 x4, .int .i64 x5] 93)).alloc (.cells #[.int .i64 r1, .int .i64 r2] 36)).heap[w1.heap.size]? = _ := bk_old (bk_new rfl)
  have t7 : ((w1.alloc (.cells #[.int .i64 x0, .int .i64 x1, .bool x2, .int .i64 x3, .int .i64 x4, .int .i64 x5] 93)).alloc (.cells #[.int .i64 r1, .int .i64 r2] 36)).heap[w1.heap.size + 1]? = _ := bk_new (by simp)
  replace bel := (bel.alloc bel.size (.cells #[.int .i64 x0, .int .i64 x1, .bool x2, .int .i64 x3, .int .i64 x4, .int .i64 x5] 93)).alloc (by simp; have := bel.size; omega) (.cells #[.int .i64 r1, .int .i64 r2] 36)
  have n1 : ¬ w1.heap.size = w.heap.size := by omega
  have n2 : ¬ w1.heap.size = w.heap.size + 1 := by omega
  have n3 : ¬ w.heap.size = w1.heap.size := by omega
  have n4 : ¬ w.heap.size + 1 = w1.heap.size := by omega
  have m1 : ¬ w1.heap.size + 1 = w.heap.size := by omega
  have m2 : ¬ w1.heap.size + 1 = w.heap.size + 1 := by omega
  have m3 : ¬ w.heap.size = w1.heap.size + 1 := by omega
  have m4 : ¬ w.heap.size + 1 = w1.heap.size + 1 := by omega
  clear hb hs NE
  generalize hg7 : w1.heap.size + 1 = b7 at *
  generalize hg6 : w1.heap.size = b6 at *
  clear hg6 hg7
  generalize (w1.alloc (.cells #[.int .i64 x0, .int .i64 x1, .bool x2, .int .i64 x3, .int .i64 x4, .int .i64 x5] 93)).alloc (.cells #[.int .i64 r1, .int .i64 r2] 36) = w2 at *
  clear w1
  have T2 := Lib.hid t2
  have T5 := Lib.hid t5
  obtain ⟨q0, q1, q2, q3, q4, q5⟩ := cells6 t2
  obtain ⟨f0, f1, f2, f3, f4, f5⟩ := free6 t2
  obtain ⟨s0, s1⟩ := cells2 t5
  obtain ⟨g0, g1, _, _, _, _⟩ := free6 t5
  obtain ⟨u0, u1, u2, u3, u4, u5⟩ := cells6 t6
  obtain ⟨v0, v1⟩ := cells2 t7
  clear t2 t5 t6 t7
  by_cases hz : r1 = 0 ∧ x5 < (n : Int)
  · have O := Lib.hid (O1.out hz)
    obtain ⟨rfl, hx⟩ := hz
    go_upto_region 3 with fail
    go_region_held3 (fun w' => w'.cell? ⟨b6, 5, none⟩ = some (.int .i64 x5)) (go_keep) (fail)
    rename_i hheld
    clear hheld
    go_wp2
    clear q0 q1 q2 q3 q4 q5 f0 f1 f2 f3 f4 f5 s0 s1 g0 g1 u0 u1 u2 u3 u4 u5 v0 v1
    have tc := cells6 (far2 (c := w.heap.size + 1) (set6 (.int .i64 0) (.int .i64 0) (.bool false) (.int .i64 0) (.int .i64 0) (.int .i64 0) T2.out) (by omega) (.int .i64 2) (.int .i64 x5))
    have td := cells2 (set2 (.int .i64 2) (.int .i64 x5) (far6 (c := w.heap.size) T5.out (by omega) (.int .i64 0) (.int .i64 0) (.bool false) (.int .i64 0) (.int .i64 0) (.int .i64 0)))
    refine bodyPost_ret (v := .tuple #[.agg #[.int .i64 0, .int .i64 0, .bool false, .int .i64 0, .int .i64 0, .int .i64 0], err 2 x5]) (by simp [results, Try.results88, go_sem, *]) rfl ?_
    exact ⟨by rw [O.out]; rfl, (by repeat' (first | (with_reducible exact Below.refl _ _) | (with_reducible assumption) | (with_reducible refine below_drewN ?_ _) | (with_reducible refine Below.drew ?_) | (with_reducible refine Below.alloc ?_ ?_ _) | (with_reducible refine Below.setCell ?_ ?_ _) | go_size))⟩
  · have O := Lib.hid (O2.out hz)
    have hz' : ¬ r1 = 0 ∨ (r1 = 0 ∧ ¬ x5 < (n : Int)) := by omega
    clear hz
    rcases hz' with h1 | ⟨rfl, h1⟩
    · go_upto_region 4 with fail
      go_region_held3 (fun w' => w'.cell? ⟨b6, 0, none⟩ = some (.int .i64 x0) ∧ w'.cell? ⟨b6, 1, none⟩ = some (.int .i64 x1) ∧ w'.cell? ⟨b6, 2, none⟩ = some (.bool x2) ∧ w'.cell? ⟨b6, 3, none⟩ = some (.int .i64 x3) ∧ w'.cell? ⟨b6, 4, none⟩ = some (.int .i64 x4) ∧ w'.cell? ⟨b6, 5, none⟩ = some (.int .i64 x5) ∧ w'.cell? ⟨b7, 0, none⟩ = some (.int .i64 r1) ∧ w'.cell? ⟨b7, 1, none⟩ = some (.int .i64 r2)) (go_keep) (fail)
      rename_i hheld
      clear hheld
      go_wp2
      clear q0 q1 q2 q3 q4 q5 f0 f1 f2 f3 f4 f5 s0 s1 g0 g1 u0 u1 u2 u3 u4 u5 v0 v1
      have tc := cells6 (far2 (c := w.heap.size + 1) (set6 (.int .i64 x0) (.int .i64 x1) (.bool x2) (.int .i64 x3) (.int .i64 x4) (.int .i64 x5) T2.out) (by omega) (.int .i64 r1) (.int .i64 r2))
      have td := cells2 (set2 (.int .i64 r1) (.int .i64 r2) (far6 (c := w.heap.size) T5.out (by omega) (.int .i64 x0) (.int .i64 x1) (.bool x2) (.int .i64 x3) (.int .i64 x4) (.int .i64 x5)))
      refine bodyPost_ret (v := .tuple #[.agg #[.int .i64 x0, .int .i64 x1, .bool x2, .int .i64 x3, .int .i64 x4, .int .i64 x5], err r1 r2]) (by simp [results, Try.results88, go_sem, *]) rfl ?_
      exact ⟨by rw [O.out], (by repeat' (first | (with_reducible exact Below.refl _ _) | (with_reducible assumption) | (with_reducible refine below_drewN ?_ _) | (with_reducible refine Below.drew ?_) | (with_reducible refine Below.alloc ?_ ?_ _) | (with_reducible refine Below.setCell ?_ ?_ _) | go_size))⟩
    · go_upto_region 4 with fail
      go_region_held3 (fun w' => w'.cell? ⟨b6, 0, none⟩ = some (.int .i64 x0) ∧ w'.cell? ⟨b6, 1, none⟩ = some (.int .i64 x1) ∧ w'.cell? ⟨b6, 2, none⟩ = some (.bool x2) ∧ w'.cell? ⟨b6, 3, none⟩ = some (.int .i64 x3) ∧ w'.cell? ⟨b6, 4, none⟩ = some (.int .i64 x4) ∧ w'.cell? ⟨b6, 5, none⟩ = some (.int .i64 x5) ∧ w'.cell? ⟨b7, 0, none⟩ = some (.int .i64 0) ∧ w'.cell? ⟨b7, 1, none⟩ = some (.int .i64 r2)) (go_keep) (fail)
      rename_i hheld
      clear hheld
      go_wp2
      clear q0 q1 q2 q3 q4 q5 f0 f1 f2 f3 f4 f5 s0 s1 g0 g1 u0 u1 u2 u3 u4 u5 v0 v1
      have tc := cells6 (far2 (c := w.heap.size + 1) (set6 (.int .i64 x0) (.int .i64 x1) (.bool x2) (.int .i64 x3) (.int .i64 x4) (.int .i64 x5) T2.out) (by omega) (.int .i64 0) (.int .i64 r2))
      have td := cells2 (set2 (.int .i64 0) (.int .i64 r2) (far6 (c := w.heap.size) T5.out (by omega) (.int .i64 x0) (.int .i64 x1) (.bool x2) (.int .i64 x3) (.int .i64 x4) (.int .i64 x5)))
      refine bodyPost_ret (v := .tuple #[.agg #[.int .i64 x0, .int .i64 x1, .bool x2, .int .i64 x3, .int .i64 x4, .int .i64 x5], err 0 r2]) (by simp [results, Try.results88, go_sem, *]) rfl ?_
      exact ⟨by rw [O.out], (by repeat' (first | (with_reducible exact Below.refl _ _) | (with_reducible assumption) | (with_reducible refine below_drewN ?_ _) | (with_reducible refine Below.drew ?_) | (with_reducible refine Below.alloc ?_ ?_ _) | (with_reducible refine Below.setCell ?_ ?_ _) | go_size))⟩
end Go.Proofs.Ytnpmgofkfdpbjaa.Tlv
/- Plain laws of lists of elements: what List and Parts return. No program in sight. -/
namespace Go.Proofs.Ytnpmgofkfdpbjaa.Tlv
open Kit Cur

/-- the elements one behind the other, from a place on -/
def elsA (l : List UInt8) (z : Nat) : Nat → Nat → List El → List El × Int × Int
  | 0, _, acc => (acc, 0, 0)
  | f + 1, p, acc =>
    if z ≤ p then (acc, 0, 0)
    else if (elV l p z).2.1 ≠ 0 then ([], (elV l p z).2.1, (elV l p z).2.2)
    else elsA l z f (elV l p z).1.stop.toNat (acc ++ [(elV l p z).1])
/-- what List returns -/
def listV (l : List UInt8) (a z : Nat) : List El × Int × Int := elsA l z (z - a + 1) a []
theorem elsA_end (l : List UInt8) (z f p : Nat) (acc : List El) (h : z ≤ p) : elsA l z f p acc = (acc, 0, 0) := by
  cases f with
  | zero => rfl
  | succ f => unfold elsA; rw [if_pos h]
theorem elsA_err {l : List UInt8} {z f p : Nat} {acc : List El} (h : p < z) (he : (elV l p z).2.1 ≠ 0) : elsA l z (f + 1) p acc = ([], (elV l p z).2.1, (elV l p z).2.2) := by
  conv => lhs; unfold elsA
  rw [if_neg (by omega), if_pos he]
theorem elsA_step {l : List UInt8} {z f p : Nat} {acc : List El} (h : p < z) (he : (elV l p z).2.1 = 0) : elsA l z (f + 1) p acc = elsA l z f (elV l p z).1.stop.toNat (acc ++ [(elV l p z).1]) := by
  conv => lhs; unfold elsA
  rw [if_neg (by omega), if_neg (by omega)]
/-- the elements of a list, one behind the other in a part of the bytes -/
def Row (l : List UInt8) (z : Nat) : Nat → List El → Prop
  | p, [] => p = z
  | p, x :: xs => p < z ∧ elV l p z = (x, 0, 0) ∧ Row l z x.stop.toNat xs
theorem el_eq {r : El × Int × Int} (h : r.2.1 = 0) (h2 : r.2.2 = 0) : r = (r.1, 0, 0) := by
  obtain ⟨x, a, b⟩ := r
  simp only [] at h h2
  rw [h, h2]
theorem elsA_back {l : List UInt8} {z : Nat} (hz : z ≤ l.length) (hl : l.length ≤ 140737488355328) : ∀ (f p : Nat) (acc : List El), p ≤ z → z - p < f →
    ((elsA l z f p acc).2.1 = 0 → (elsA l z f p acc).2.2 = 0 ∧ ∃ xs, (elsA l z f p acc).1 = acc ++ xs ∧ Row l z p xs) ∧
    ((elsA l z f p acc).2.1 ≠ 0 → (elsA l z f p acc).1 = [] ∧ 0 < (elsA l z f p acc).2.1 ∧ (elsA l z f p acc).2.1 ≤ 4 ∧ (p : Int) ≤ (elsA l z f p acc).2.2 ∧ (elsA l z f p acc).2.2 ≤ z) := by
  intro f
  induction f with
  | zero => intro p acc _ h; omega
  | succ f ih =>
    intro p acc hp hf
    rcases Nat.lt_or_ge p z with hlt | hge
    · have hb := elV_bd (l := l) (a := p) (z := z) hp hz hl
      by_cases he : (elV l p z).2.1 ≠ 0
      · rw [elsA_err hlt he]
        obtain ⟨_, b2, b3, b4, b5⟩ := hb.1 he
        exact ⟨fun h => absurd h he, fun _ => ⟨rfl, b2, b3, b4, b5⟩⟩
      · rw [elsA_step hlt (by omega)]
        obtain ⟨c1, c2, c3, c4, c5⟩ := hb.2 (by omega)
        have i := ih (elV l p z).1.stop.toNat (acc ++ [(elV l p z).1]) (by omega) (by omega)
        refine ⟨fun h => ?_, fun h => ?_⟩
        · obtain ⟨h1, xs, h2, h3⟩ := i.1 h
          refine ⟨h1, (elV l p z).1 :: xs, by rw [h2]; simp, hlt, ?_, h3⟩
          exact el_eq (by omega) c1
        · obtain ⟨h1, h2, h3, h4, h5⟩ := i.2 h
          exact ⟨h1, h2, h3, by omega, h5⟩
    · rw [elsA_end _ _ _ _ _ hge]
      exact ⟨fun _ => ⟨rfl, [], by simp, by show p = z; omega⟩, fun h => absurd rfl h⟩
theorem listV_bd {l : List UInt8} {a z : Nat} (ha : a ≤ z) (hz : z ≤ l.length) (hl : l.length ≤ 140737488355328) :
    ((listV l a z).2.1 = 0 → (listV l a z).2.2 = 0 ∧ Row l z a (listV l a z).1) ∧
    ((listV l a z).2.1 ≠ 0 → (listV l a z).1 = [] ∧ 0 < (listV l a z).2.1 ∧ (listV l a z).2.1 ≤ 4 ∧ (a : Int) ≤ (listV l a z).2.2 ∧ (listV l a z).2.2 ≤ z) := by
  have h := elsA_back hz hl (z - a + 1) a [] ha (by omega)
  refine ⟨fun he => ?_, h.2⟩
  obtain ⟨h1, xs, h2, h3⟩ := h.1 he
  rw [List.nil_append] at h2
  refine ⟨h1, ?_⟩
  show Row l z a (elsA l z (z - a + 1) a []).1
  rw [h2]; exact h3
/-- an element's bounds, in a row -/
theorem Row.bd {l : List UInt8} {z : Nat} (hz : z ≤ l.length) (hl : l.length ≤ 140737488355328) : ∀ {xs : List El} {p : Nat}, p ≤ z → Row l z p xs → ∀ x, x ∈ xs → (p : Int) ≤ x.start ∧ x.start + 2 ≤ x.body ∧ x.body ≤ x.stop ∧ x.stop ≤ z := by
  intro xs
  induction xs with
  | nil => intro p _ _ x hx; simp at hx
  | cons y ys ih =>
    intro p hp h x hx
    obtain ⟨h1, h2, h3⟩ := h
    have hb := (elV_bd (l := l) (a := p) (z := z) hp hz hl).2 (by rw [h2])
    rw [h2] at hb
    simp only [] at hb
    rcases List.mem_cons.1 hx with rfl | hx
    · omega
    · have := ih (by omega) h3 x hx
      omega
theorem one_bd {l : List UInt8} (h : (oneV l).2.1 = 0) : (oneV l).2.2 = 0 ∧ (oneV l).1.start = 0 ∧ 2 ≤ (oneV l).1.body ∧ (oneV l).1.body ≤ (oneV l).1.stop ∧ (oneV l).1.stop = l.length := by
  obtain ⟨-, -, h3, -, h5, -, h7⟩ := one_ok h
  rw [h5]
  have hll := (rl_len (encCode_ok h3).2 []).2.1
  exact ⟨rfl, rfl, by simp only []; omega, by simp only []; omega, rfl⟩
/-- what Parts returns -/
def partsV (l : List UInt8) (c n : Int) : List El × Int × Int :=
  if (oneV l).2.1 ≠ 0 then ([], (oneV l).2.1, (oneV l).2.2)
  else if ((oneV l).1.cls = c ∧ (oneV l).1.cons = true) ∧ (oneV l).1.num = n then listV l (oneV l).1.body.toNat (oneV l).1.stop.toNat else ([], 3, 0)
theorem partsV_err {l : List UInt8} {c n : Int} (h : (oneV l).2.1 ≠ 0) : partsV l c n = ([], (oneV l).2.1, (oneV l).2.2) := by unfold partsV; rw [if_pos h]
theorem partsV_tag {l : List UInt8} {c n : Int} (h : ¬ (oneV l).2.1 ≠ 0) (h2 : ¬ (((oneV l).1.cls = c ∧ (oneV l).1.cons = true) ∧ (oneV l).1.num = n)) : partsV l c n = ([], 3, 0) := by unfold partsV; rw [if_neg h, if_neg h2]
theorem partsV_ok {l : List UInt8} {c n : Int} (h : ¬ (oneV l).2.1 ≠ 0) (h2 : ((oneV l).1.cls = c ∧ (oneV l).1.cons = true) ∧ (oneV l).1.num = n) : partsV l c n = listV l (oneV l).1.body.toNat (oneV l).1.stop.toNat := by unfold partsV; rw [if_neg h, if_pos h2]
end Go.Proofs.Ytnpmgofkfdpbjaa.Tlv
/- Walks: List and Parts of the package element; appends of structs. -/
namespace Go.Proofs.Ytnpmgofkfdpbjaa.Kit
open Go.RowKit
/-- append(out, x) of a struct that has just been laid, where the call owns out -/
theorem appS {P : Program} {ops : Array Oper} {rest : List Oper} {o : Oper} {a : Act} {w : World} {Q : Exit → Act → World → Prop} {e : TypeId} {cs : List Value} (hgd : o.guard = none) (s x : Operand) (t : TypeId) (size bytes : Nat) (z : Value)
    (ho : o.op = .call { callee := .builtin .append, args := #[s, x], argTypes := #[t, t] }) (ht : P.underlying t = some (.slice e))
    (hinf : (P.info? e).map (fun i => (i.zero, i.size, i.bytes)) = some (some z, size, bytes)) (hzs : z.cells.size = size) (hsz : 0 < size) (hby : 0 < bytes)
    {base n c : Nat} {A : Option Addr} {xs : List Value} (hs : a.eval s = .slice A n c) (hown : w.ownsRow base e size (.slice A n c) n xs) (hcs : cs.length = size) (h1 : ∀ u ∈ cs, u.oneCell' = true)
    {S c2 : Nat} (hx : a.eval x = .slice (some ⟨S, 0, none⟩) 1 c2) (hS : w.heap.size = S) (hlim : (n + 1) * bytes ≤ 140737488355328) (hbase : base ≤ w.heap.size)
    (h : ∀ A' c' w', w'.ownsRow base e size (.slice A' (n + 1) c') (n + 1) (xs ++ cs) → (w.alloc (.cells cs.toArray e)).grownBy w' (Value.slice A n c).ownBlock → Below base w w' →
      ((Value.slice A' (n + 1) c').ownBlock = (Value.slice A n c).ownBlock ∨ (Value.slice A' (n + 1) c').ownBlock = some (S + 1)) → wpList P ops Q rest (a.put o.dst (.slice A' (n + 1) c')) w') :
    wpList P ops Q (o :: rest) a (w.alloc (.cells cs.toArray e)) := by
  subst hS
  obtain ⟨i, hi, hz, hsz', hby'⟩ := info_parts hinf
  have hown' := hown.alloc (.cells cs.toArray e)
  have h63 : n + 1 ≤ maxLen := by
    have : n + 1 ≤ (n + 1) * bytes := Nat.le_mul_of_pos_right _ hby
    unfold maxLen; omega
  have hnews : ∀ j u, cs[j]? = some u → (w.alloc (.cells cs.toArray e)).cell? ((⟨w.heap.size, 0, none⟩ : Addr).add j) = some u := by
    intro j u hu
    rw [add_plain, Nat.zero_add, cell_of_row _ w.heap.size j _ _ _ (heap_alloc_new w _)]
    simpa using hu
  obtain ⟨v', w', hrun, h2, h3, h4, h5⟩ := run_append_own_at (P := P) (w.alloc (.cells cs.toArray e)) base t o.type e i z size bytes ht hi hz hsz' hby' hzs hsz (.slice A n c) n xs hown' ⟨w.heap.size, 0, none⟩ 1 c2 cs (by rw [hcs]; omega) hnews h1 h63 hlim (by simp; omega)
  have hb : Below base w w' := by
    refine ((Below.refl _ _).alloc hbase _).grown h3 (by simp; omega) (fun k hk => ?_)
    rcases hown.2 with ⟨hv, _⟩ | ⟨g, cap, cur, hv, hg', _⟩
    · injection hv with h1; subst h1; cases hk
    · injection hv with h1; subst h1; simp [Value.ownBlock] at hk; omega
  have hv : ∃ A' c', v' = .slice A' (n + 1) c' := by
    rcases Joins.ownsRow_forms h2 with ⟨_, h0⟩ | ⟨g, cap, hv⟩
    · omega
    · exact ⟨_, _, hv⟩
  obtain ⟨A', c', rfl⟩ := hv
  refine wpList_plain hgd fun _ hK => ?_
  unfold Oper.wp execOp
  simp only [ho, resolve, invoke, builtin, Sem.run_bind, Sem.run_pure, Result.andThen_ok, List.map_toArray, List.map_cons, List.map_nil, hs, hx, hrun]
  exact hK _ _ (h A' c' w' h2 h3 hb (by simpa using h5))
theorem owns_below {w w' : World} {base n size : Nat} {e : TypeId} {v : Value} {xs : List Value} (h : w.ownsRow base e size v n xs) {B : Nat} (hb : Below B w w') (hB : w.heap.size ≤ B) : w'.ownsRow base e size v n xs := by
  refine ⟨h.1, ?_⟩
  rcases h.2 with hn | ⟨g, cap, cur, rfl, hg, hgg, rest⟩
  · exact .inl hn
  · exact .inr ⟨g, cap, cur, rfl, hg, (hb.block g (Nat.lt_of_lt_of_le (Blk_lt hgg) hB)).trans hgg, rest⟩
theorem owns_mono {w : World} {base base' n size : Nat} {e : TypeId} {v : Value} {xs : List Value} (h : w.ownsRow base e size v n xs) (hb : base' ≤ base) : w.ownsRow base' e size v n xs := by
  refine ⟨h.1, ?_⟩
  rcases h.2 with hn | ⟨g, cap, cur, rfl, hg, rest⟩
  · exact .inl hn
  · exact .inr ⟨g, cap, cur, rfl, Nat.le_trans hb hg, rest⟩
/-- a block that is none of the slice's, behind an append -/
theorem far_own {w w' : World} {base n c size b : Nat} {e : TypeId} {A : Option Addr} {xs : List Value} {v : World} {o : Obj} (hown : v.ownsRow base e size (.slice A n c) n xs) (hg : w.grownBy w' (Value.slice A n c).ownBlock)
    (hb : w.heap[b]? = some o) (hf : b < base ∨ v.heap.size ≤ b) : w'.heap[b]? = some o := by
  refine (hg.block b (Blk_lt hb) (fun e => ?_)).trans hb
  have := World.ownsRow.lt hown b e.symm
  omega
end Go.Proofs.Ytnpmgofkfdpbjaa.Kit
namespace Go.Proofs.Ytnpmgofkfdpbjaa.Tlv
open Go.RowKit Kit

/-- the cells of an element, of a list of elements -/
def elC (x : El) : List Value := [.int .i64 x.cls, .int .i64 x.num, .bool x.cons, .int .i64 x.start, .int .i64 x.body, .int .i64 x.stop]
def elsC (l : List El) : List Value := l.flatMap elC
theorem elsC_len (l : List El) : (elsC l).length = l.length * 6 := by
  induction l with
  | nil => rfl
  | cons x l ih => simp only [elsC, List.flatMap_cons, List.length_append, List.length_cons] at ih ⊢; rw [ih]; simp [elC]; omega
theorem elsC_snoc (l : List El) (x : El) : elsC (l ++ [x]) = elsC l ++ elC x := by simp [elsC]
theorem elC_one (x : El) : ∀ u ∈ elC x, u.oneCell' = true := by
  intro u hu
  simp only [elC, List.mem_cons, List.not_mem_nil, or_false] at hu
  rcases hu with rfl | rfl | rfl | rfl | rfl | rfl <;> rfl
theorem infoEl : (Try.prog.info? 93).map (fun i => (i.zero, i.size, i.bytes)) = some (some (.agg #[.int .i64 0, .int .i64 0, .bool false, .int .i64 0, .int .i64 0, .int .i64 0]), 6, 48) := by kernel_rfl
/-- THE CALL OWNS a list of elements -/
def OwnE (w : World) (base : Nat) (A : Option Addr) (c : Nat) (xs : List El) : Prop := w.ownsRow base 93 6 (.slice A xs.length c) xs.length (elsC xs)
/-- what List and Parts return -/
def ListP (w : World) (r : List El × Int × Int) (e : Ending) (w' : World) : Prop :=
  ∃ A' c', e = .returned (.tuple #[.slice A' r.1.length c', err r.2.1 r.2.2]) ∧ OwnE w' w.heap.size A' c' r.1 ∧ Below w.heap.size w w'
/-- where a loop of List stands -/
def ListR (w : World) (l : List UInt8) (z : Nat) (r : List El × Int × Int) (o i : Value) (wr : World) : Prop :=
  ∃ (p f : Nat) (A : Option Addr) (c : Nat) (acc : List El), i = .int .i64 (p : Int) ∧ p ≤ z ∧ o = .slice A acc.length c ∧ OwnE wr (w.heap.size + 1) A c acc ∧
    wr.heap[w.heap.size]? = some (.cells #[.int .i64 0, .int .i64 0] 36 (0, 0)) ∧ Below w.heap.size w wr ∧ elsA l z f p acc = r ∧ z - p < f ∧ acc.length ≤ p

set_option maxRecDepth 100000 in
set_option maxHeartbeats 4000000 in
theorem list_any {A : Option Addr} {n c B : Nat} {l : List UInt8} (a z : Nat) (w : World) (hr : Rd w B A n l) (hB : B ≤ w.heap.size) (hc : n ≤ c) (hm : c ≤ maxLen) (hn : n ≤ 1000000) (ha : a ≤ z) (hz : z ≤ n) :
    Calls Try.prog 147 #[.slice A n c, .int .i64 (a : Int), .int .i64 (z : Int)] w (ListP w (listV l a z)) := by
  have hl := hr.len
  have NE := Lib.hid (fun (p : Nat) (X : World) (h : Below w.heap.size w X) (hp : p ≤ z) => nextel_any (c := c) p z X (hr.below (h.mono hB)) (by have := h.size; omega) hc hm (by omega) hp hz)
  have BD := Lib.hid (fun (p : Nat) (hp : p ≤ z) => elV_bd (l := l) (a := p) (z := z) hp (by omega) (by omega))
  have SE := Lib.hid (fun (f p : Nat) (acc : List El) (h : p < z) he => elsA_err (l := l) (f := f) (acc := acc) h he)
  have SS := Lib.hid (fun (f p : Nat) (acc : List El) (h : p < z) he => elsA_step (l := l) (f := f) (acc := acc) h he)
  have SZ := Lib.hid (fun (f p : Nat) (acc : List El) (h : z ≤ p) => elsA_end l z f p acc h)
  have ha' : (a : Int) ≤ (z : Int) := by omega
  have hz' : (z : Int) ≤ (n : Int) := by omega
  have hz2 : (z : Int) ≤ 1000000 := by omega
  have R0 := Lib.hid (show elsA l z (z - a + 1) a [] = listV l a z from rfl)
  generalize listV l a z = r at *
  have e1 : decide ((a : Int) < 0) = false := by simp only [decide_eq_false_iff_not]; omega
  have e2 : decide (z < a) = false := by simp only [decide_eq_false_iff_not]; omega
  have e3 : decide (n < z) = false := by simp only [decide_eq_false_iff_not]; omega
  clear hr
  go_enter Try.func147, Try.ntmps147
  go_wp2
  go_loopw [8, 9] (fun o i wr => ListR w l z r o i wr) (fun _ i _ => z - (intOf i).toNat)
  case atStart =>
    exact ⟨a, z - a + 1, none, 0, [], rfl, ha, rfl, World.ownsRow_nil _ _ _ _, bk_new rfl, (by repeat' (first | (with_reducible exact Below.refl _ _) | (with_reducible assumption) | (with_reducible refine below_drewN ?_ _) | (with_reducible refine Below.drew ?_) | (with_reducible refine Below.alloc ?_ ?_ _) | (with_reducible refine Below.setCell ?_ ?_ _) | go_size)), R0.out, by omega, by simp⟩
  case round =>
    obtain ⟨p, f, A1, c1, acc, rfl, hp, rfl, ho, h0, hb, hr, hf, hacc⟩ := hrel
    have zb := Blk_lt h0
    by_cases hlt : p < z
    · obtain ⟨f', rfl⟩ : ∃ f', f = f' + 1 := ⟨f - 1, by omega⟩
      have hpz : (p : Int) < (z : Int) := by omega
      have bd := BD.out p hp
      have S1 := Lib.hid (fun he => SE.out f' p acc hlt he)
      have S2 := Lib.hid (fun he => SS.out f' p acc hlt he)
      have NX := Lib.hid (NE.out p wr hb hp)
      have HF := Lib.hid hf
      have RR := Lib.hid hr
      clear NE BD SE SS SZ R0 hf hr
      generalize elV l p z = q at *
      obtain ⟨⟨x0, x1, x2, x3, x4, x5⟩, r1, r2⟩ := q
      simp only [elR, elT] at NX S1 S2 bd
      have BD := Lib.hid bd
      clear bd
      go_upto_region 7 with (first | (go_at_call 141; refine NX.out.mono ?_; rintro e w1 ⟨rfl, hb1⟩))
      have zs1 := hb1.size
      have t0 := bk_old (o' := .cells #[.int .i64 r1, .int .i64 r2] 36) (bk_old (o' := .cells #[.int .i64 x0, .int .i64 x1, .bool x2, .int .i64 x3, .int .i64 x4, .int .i64 x5] 93) ((hb1.block _ zb).trans h0))
      have t6 : ((w1.alloc (.cells #[.int .i64 x0, .int .i64 x1, .bool x2, .int .i64 x3, .int .i64 x4, .int .i64 x5] 93)).alloc (.cells #[.int .i64 r1, .int .i64 r2] 36)).heap[w1.heap.size]? = _ := bk_old (bk_new rfl)
      have t7 : ((w1.alloc (.cells #[.int .i64 x0, .int .i64 x1, .bool x2, .int .i64 x3, .int .i64 x4, .int .i64 x5] 93)).alloc (.cells #[.int .i64 r1, .int .i64 r2] 36)).heap[w1.heap.size + 1]? = _ := bk_new (by simp)
      have bel := ((hb.trans (hb1.mono (Nat.le_of_lt zb))).alloc (by omega) (.cells #[.int .i64 x0, .int .i64 x1, .bool x2, .int .i64 x3, .int .i64 x4, .int .i64 x5] 93)).alloc (by simp; omega) (.cells #[.int .i64 r1, .int .i64 r2] 36)
      have ow := ((owns_below ho hb1 (Nat.le_refl _)).alloc (.cells #[.int .i64 x0, .int .i64 x1, .bool x2, .int .i64 x3, .int .i64 x4, .int .i64 x5] 93)).alloc (.cells #[.int .i64 r1, .int .i64 r2] 36)
      have n1 : ¬ w1.heap.size = w.heap.size := by omega
      have n3 : ¬ w.heap.size = w1.heap.size := by omega
      have m1 : ¬ w1.heap.size + 1 = w.heap.size := by omega
      have m3 : ¬ w.heap.size = w1.heap.size + 1 := by omega
      have lb6 : wr.heap.size ≤ w1.heap.size := zs1
      clear h0 hb1 zs1 NX
      have hg7 : ∃ b7, b7 = w1.heap.size + 1 := ⟨_, rfl⟩
      obtain ⟨b7, hg7⟩ := hg7
      rw [← hg7] at m1 m3 t7
      have hsz : ((w1.alloc (.cells #[.int .i64 x0, .int .i64 x1, .bool x2, .int .i64 x3, .int .i64 x4, .int .i64 x5] 93)).alloc (.cells #[.int .i64 r1, .int .i64 r2] 36)).heap.size = b7 + 1 := by rw [hg7]; simp
      rw [← hg7]
      generalize hg6 : w1.heap.size = b6 at *
      generalize (w1.alloc (.cells #[.int .i64 x0, .int .i64 x1, .bool x2, .int .i64 x3, .int .i64 x4, .int .i64 x5] 93)).alloc (.cells #[.int .i64 r1, .int .i64 r2] 36) = w2 at *
      clear hg6 w1
      have n67 : ¬ b7 = b6 := by omega
      have n76 : ¬ b6 = b7 := by omega
      have HG7 := Lib.hid hg7
      clear hg7
      have T0 := Lib.hid t0
      have T6 := Lib.hid t6
      have SZ2 := Lib.hid hsz
      obtain ⟨s0, s1⟩ := cells2 t0
      obtain ⟨g0, g1, _, _, _⟩ := free5 t0
      obtain ⟨u0, u1, u2, u3, u4, u5⟩ := cells6 t6
      obtain ⟨v0, v1⟩ := cells2 t7
      have OW := Lib.hid ow
      have HO := Lib.hid ho
      clear t0 t6 t7 hsz ow ho
      by_cases hzz : r1 = 0
      · subst hzz
        obtain ⟨b1, b2, b3, b4, b5⟩ := BD.out.2 rfl
        subst b1 b2
        obtain ⟨m, rfl⟩ := Int.eq_ofNat_of_zero_le (show 0 ≤ x5 from by omega)
        have EE := Lib.hid ((S2.out rfl).symm.trans RR.out)
        simp only [Int.toNat_natCast] at EE
        have lb : w.heap.size + 1 ≤ w2.heap.size := by have := SZ2.out; have := HG7.out; omega
        have hlim : (acc.length + 1) * 48 ≤ 140737488355328 := by omega
        clear S1 S2 BD RR
        go_upto_region 10 with (first | (at_builtin; refine appS rfl (.tmp 41) (.tmp 43) 114 6 48 _ rfl Try.underlying114 infoEl rfl (by decide) (by decide) rfl OW.out rfl (elC_one ⟨x0, x1, x2, (p : Int), x4, (m : Int)⟩) rfl rfl hlim lb ?_; intro A2 c2 w3 ho3 hg3 hb3 hs3))
        clear s0 s1 g0 g1 u0 u1 u2 u3 u4 u5 v0 v1
        have t6 := far_own (b := b6) HO.out hg3 (bk_old T6.out) (.inr lb6)
        have t0 := far_own (b := w.heap.size) HO.out hg3 (bk_old T0.out) (.inl (Nat.lt_succ_self _))
        obtain ⟨u0, u1, u2, u3, u4, u5⟩ := cells6 t6
        clear t6 hg3 OW T0 T6 HO
        go_wp2
        go_roundw
        case rel => exact ⟨m, f', A2, c2, acc ++ [⟨x0, x1, x2, (p : Int), x4, (m : Int)⟩], rfl, by omega, by simp, by rw [OwnE, List.length_append, elsC_snoc]; exact ho3, t0, bel.trans (hb3.mono (by omega)), EE.out, by have := HF.out; omega, by simp; omega⟩
        case measure => simp [intOf]; omega
      · obtain ⟨-, b2, b3, b4, b5⟩ := BD.out.1 hzz
        have EE := Lib.hid ((S1.out hzz).symm.trans RR.out)
        clear S1 S2 BD RR
        go_upto_region 8 with fail
        go_region_held3 (fun w' => w'.cell? ⟨b7, 0, none⟩ = some (.int .i64 r1) ∧ w'.cell? ⟨b7, 1, none⟩ = some (.int .i64 r2)) (go_keep) (fail)
        rename_i hheld
        clear hheld
        go_wp2
        clear s0 s1 g0 g1 u0 u1 u2 u3 u4 u5 v0 v1
        have td := cells2 (set2 (.int .i64 r1) (.int .i64 r2) T0.out)
        refine bodyPost_ret (v := .tuple #[.slice none 0 0, err r1 r2]) (by simp [results, Try.results147, go_sem, *]) rfl ?_
        unfold ListP
        rw [← EE.out]
        exact ⟨none, 0, rfl, World.ownsRow_nil _ _ _ _, (by repeat' (first | (with_reducible exact Below.refl _ _) | (with_reducible assumption) | (with_reducible refine below_drewN ?_ _) | (with_reducible refine Below.drew ?_) | (with_reducible refine Below.alloc ?_ ?_ _) | (with_reducible refine Below.setCell ?_ ?_ _) | go_size))⟩
    · obtain rfl : p = z := by omega
      have EE := Lib.hid ((SZ.out f p acc (Nat.le_refl _)).symm.trans hr)
      clear NE BD SE SS SZ R0 hr
      have T0 := Lib.hid h0
      have OW := Lib.hid ho
      have BE := Lib.hid hb
      obtain ⟨s0, s1⟩ := cells2 h0
      obtain ⟨g0, g1, _, _, _⟩ := free5 h0
      clear h0 ho hb
      go_wp2
      clear s0 s1 g0 g1
      have bel := BE.out
      have td := cells2 (set2 (.int .i64 0) (.int .i64 0) T0.out)
      refine bodyPost_ret (v := .tuple #[.slice A1 acc.length c1, err 0 0]) (by simp [results, Try.results147, go_sem, *]) rfl ?_
      unfold ListP
      rw [← EE.out]
      exact ⟨A1, c1, rfl, owns_mono (ownsRow_setCell_below (ownsRow_setCell_below OW.out (by simp) _) (by simp) _) (Nat.le_succ _), (by repeat' (first | (with_reducible exact Below.refl _ _) | (with_reducible assumption) | (with_reducible refine below_drewN ?_ _) | (with_reducible refine Below.drew ?_) | (with_reducible refine Below.alloc ?_ ?_ _) | (with_reducible refine Below.setCell ?_ ?_ _) | go_size))⟩
end Go.Proofs.Ytnpmgofkfdpbjaa.Tlv
/- Walks: Parts of the package element. -/
namespace Go.Proofs.Ytnpmgofkfdpbjaa.Tlv
open Go.RowKit Kit

theorem isB_iff {x0 x1 x3 x4 x5 c n : Int} {x2 b : Bool} (h : (x0 = c ∧ x2 = b) ∧ x1 = n) : isB ⟨x0, x1, x2, x3, x4, x5⟩ c b n = true := by
  unfold isB; simp [h.1.1, h.1.2, h.2]
theorem isB_not {x0 x1 x3 x4 x5 c n : Int} {x2 b : Bool} (h : ¬ ((x0 = c ∧ x2 = b) ∧ x1 = n)) : isB ⟨x0, x1, x2, x3, x4, x5⟩ c b n = false := by
  unfold isB
  cases h' : (decide (x0 = c) && decide (x2 = b) && decide (x1 = n)) with
  | false => rfl
  | true => simp at h'; exact absurd h' h

set_option maxRecDepth 100000 in
set_option maxHeartbeats 1500000 in
theorem parts_any {A : Option Addr} {n c B : Nat} {l : List UInt8} (cl nu : Int) (w : World) (hr : Rd w B A n l) (hB : B ≤ w.heap.size) (hc : n ≤ c) (hm : c ≤ maxLen) (hn : n ≤ 1000000) :
    Calls Try.prog 106 #[.slice A n c, .int .i64 cl, .int .i64 nu] w (ListP w (partsV l cl nu)) := by
  have hl := hr.len
  have ON := Lib.hid (fun (X : World) (h : Below w.heap.size w X) => one_any (c := c) X (hr.below (h.mono hB)) (by have := h.size; omega) hc hm (by omega))
  have LI := Lib.hid (fun (a z : Nat) (X : World) (h : Below w.heap.size w X) (ha : a ≤ z) (hz : z ≤ n) => list_any (c := c) a z X (hr.below (h.mono hB)) (by have := h.size; omega) hc hm hn ha hz)
  have P1 := Lib.hid (fun h => partsV_err (l := l) (c := cl) (n := nu) h)
  have P2 := Lib.hid (fun h h2 => partsV_tag (l := l) (c := cl) (n := nu) h h2)
  have P3 := Lib.hid (fun h h2 => partsV_ok (l := l) (c := cl) (n := nu) h h2)
  have BD := Lib.hid (fun h => one_bd (l := l) h)
  rw [hl] at BD
  generalize partsV l cl nu = r at *
  generalize oneV l = q at *
  obtain ⟨⟨x0, x1, x2, x3, x4, x5⟩, r1, r2⟩ := q
  simp only [elR, elT] at ON P1 P2 P3 BD
  have IS := Lib.hid (fun (X : World) => is_any x0 x1 x3 x4 x5 x2 cl true nu X)
  clear hr
  go_enter Try.func106, Try.ntmps106
  go_upto_region 2 with (first | (go_at_call 88; refine (ON.out _ ((Below.refl _ _).alloc (Nat.le_refl _) _)).mono ?_; rintro e w1 ⟨rfl, hb1⟩))
  have zs1 := hb1.size
  simp only [World.size_alloc] at zs1
  have t0 := bk_old (o' := .cells #[.int .i64 r1, .int .i64 r2] 36) (bk_old (o' := .cells #[.int .i64 x0, .int .i64 x1, .bool x2, .int .i64 x3, .int .i64 x4, .int .i64 x5] 93) (blk1 hb1))
  have t6 : ((w1.alloc (.cells #[.int .i64 x0, .int .i64 x1, .bool x2, .int .i64 x3, .int .i64 x4, .int .i64 x5] 93)).alloc (.cells #[.int .i64 r1, .int .i64 r2] 36)).heap[w1.heap.size]? = _ := bk_old (bk_new rfl)
  have t7 : ((w1.alloc (.cells #[.int .i64 x0, .int .i64 x1, .bool x2, .int .i64 x3, .int .i64 x4, .int .i64 x5] 93)).alloc (.cells #[.int .i64 r1, .int .i64 r2] 36)).heap[w1.heap.size + 1]? = _ := bk_new (by simp)
  have bel := ((bel1 hb1).alloc (by omega) (.cells #[.int .i64 x0, .int .i64 x1, .bool x2, .int .i64 x3, .int .i64 x4, .int .i64 x5] 93)).alloc (by simp; omega) (.cells #[.int .i64 r1, .int .i64 r2] 36)
  have n1 : ¬ w1.heap.size = w.heap.size := by omega
  have n3 : ¬ w.heap.size = w1.heap.size := by omega
  have m1 : ¬ w1.heap.size + 1 = w.heap.size := by omega
  have m3 : ¬ w.heap.size = w1.heap.size + 1 := by omega
  have zb : w.heap.size < w1.heap.size + 1 + 1 := by omega
  clear hb1 zs1 ON
  have hg7 : ∃ b7, b7 = w1.heap.size + 1 := ⟨_, rfl⟩
  obtain ⟨b7, hg7⟩ := hg7
  rw [← hg7] at m1 m3 t7 zb
  have hsz : ((w1.alloc (.cells #[.int .i64 x0, .int .i64 x1, .bool x2, .int .i64 x3, .int .i64 x4, .int .i64 x5] 93)).alloc (.cells #[.int .i64 r1, .int .i64 r2] 36)).heap.size = b7 + 1 := by rw [hg7]; simp
  rw [← hsz] at zb
  rw [← hg7]
  generalize hg6 : w1.heap.size = b6 at *
  generalize (w1.alloc (.cells #[.int .i64 x0, .int .i64 x1, .bool x2, .int .i64 x3, .int .i64 x4, .int .i64 x5] 93)).alloc (.cells #[.int .i64 r1, .int .i64 r2] 36) = w2 at *
  clear hg6 w1
  have n67 : ¬ b7 = b6 := by omega
  have n76 : ¬ b6 = b7 := by omega
  clear hg7 hsz
  have T0 := Lib.hid t0
  have T6 := Lib.hid t6
  obtain ⟨s0, s1⟩ := cells2 t0
  obtain ⟨g0, g1, _, _, _⟩ := free5 t0
  obtain ⟨u0, u1, u2, u3, u4, u5⟩ := cells6 t6
  obtain ⟨v0, v1⟩ := cells2 t7
  clear t0 t6 t7
  by_cases hzz : r1 = 0
  · subst hzz
    obtain ⟨b1, b2, b3, b4, b5⟩ := BD.out rfl
    subst b1 b2 b5
    obtain ⟨m4, rfl⟩ := Int.eq_ofNat_of_zero_le (show 0 ≤ x4 from by omega)
    by_cases hT : (x0 = cl ∧ x2 = true) ∧ x1 = nu
    · have EE := Lib.hid (P3.out (by decide) hT)
      simp only [Int.toNat_natCast] at EE
      have IB := Lib.hid (isB_iff (x3 := 0) (x4 := (m4 : Int)) (x5 := (n : Int)) hT)
      rw [IB.out] at IS
      clear P1 P2 P3 BD hT
      go_upto_region 6 with (first | (go_at_call 89; go_must (go_fit (IS.out _)); rintro e w3 ⟨rfl, hb3⟩))
      have bel3 := bel.trans (hb3.mono (Nat.le_of_lt zb))
      have LL := Lib.hid (LI.out m4 n w3 bel3 (by omega) (by omega))
      have t0 := (hb3.block _ (Blk_lt T0.out)).trans T0.out
      have t6 := (hb3.block _ (Blk_lt T6.out)).trans T6.out
      clear s0 s1 g0 g1 u0 u1 u2 u3 u4 u5 v0 v1 LI IS
      have T0 := Lib.hid t0
      obtain ⟨s0, s1⟩ := cells2 t0
      obtain ⟨g0, g1, _, _, _⟩ := free5 t0
      obtain ⟨u0, u1, u2, u3, u4, u5⟩ := cells6 t6
      have z3 : w.heap.size < w3.heap.size := Blk_lt t0
      clear t0 t6 bel
      generalize listV l m4 n = q at *
      obtain ⟨q1, q2, q3⟩ := q
      have LL := Lib.hid LL.out
      go_wp2_with (first | (go_at_call 147; go_must (go_fit LL.out); rintro e w4 ⟨A4, c4, rfl, ho4, hb4⟩; have t4 := (hb4.block _ (Blk_lt T0.out)).trans T0.out; have T4 := Lib.hid t4; obtain ⟨ss0, ss1⟩ := cells2 t4; obtain ⟨gg0, gg1, _, _, _⟩ := free5 t4; clear t4; have O4 := Lib.hid ho4; clear ho4))
      clear s0 s1 g0 g1 u0 u1 u2 u3 u4 u5
      have bel := bel3.trans (hb4.mono (Nat.le_of_lt z3))
      have td := cells2 (set2 (.int .i64 q2) (.int .i64 q3) T4.out)
      refine bodyPost_ret (v := .tuple #[.slice A4 q1.length c4, err q2 q3]) (by simp [results, Try.results106, go_sem, *]) rfl ?_
      unfold ListP
      rw [EE.out]
      exact ⟨A4, c4, rfl, owns_mono (ownsRow_setCell_below (ownsRow_setCell_below O4.out z3 _) z3 _) (Nat.le_of_lt z3), (by repeat' (first | (with_reducible exact Below.refl _ _) | (with_reducible assumption) | (with_reducible refine below_drewN ?_ _) | (with_reducible refine Below.drew ?_) | (with_reducible refine Below.alloc ?_ ?_ _) | (with_reducible refine Below.setCell ?_ ?_ _) | go_size))⟩
    · have EE := Lib.hid (P2.out (by decide) hT)
      have IB := Lib.hid (isB_not (x3 := 0) (x4 := (m4 : Int)) (x5 := (n : Int)) hT)
      rw [IB.out] at IS
      clear P1 P2 P3 BD hT
      go_wp2_with (first | (go_at_call 89; go_must (go_fit (IS.out _)); rintro e w3 ⟨rfl, hb3⟩; have t3 := (hb3.block _ (Blk_lt T0.out)).trans T0.out; have T3 := Lib.hid t3; obtain ⟨ss0, ss1⟩ := cells2 t3; obtain ⟨gg0, gg1, _, _, _⟩ := free5 t3; clear t3))
      clear s0 s1 g0 g1 u0 u1 u2 u3 u4 u5 v0 v1
      replace bel := bel.trans (hb3.mono (Nat.le_of_lt zb))
      have td := cells2 (set2 (.int .i64 3) (.int .i64 0) T3.out)
      refine bodyPost_ret (v := .tuple #[.slice none 0 0, err 3 0]) (by simp [results, Try.results106, go_sem, *]) rfl ?_
      unfold ListP
      rw [EE.out]
      exact ⟨none, 0, rfl, World.ownsRow_nil _ _ _ _, (by repeat' (first | (with_reducible exact Below.refl _ _) | (with_reducible assumption) | (with_reducible refine below_drewN ?_ _) | (with_reducible refine Below.drew ?_) | (with_reducible refine Below.alloc ?_ ?_ _) | (with_reducible refine Below.setCell ?_ ?_ _) | go_size))⟩
  · have EE := Lib.hid (P1.out hzz)
    clear P1 P2 P3 BD LI IS
    go_upto_region 3 with fail
    go_region_held3 (fun w' => w'.cell? ⟨b7, 0, none⟩ = some (.int .i64 r1) ∧ w'.cell? ⟨b7, 1, none⟩ = some (.int .i64 r2)) (go_keep) (fail)
    rename_i hheld
    clear hheld
    go_wp2
    clear s0 s1 g0 g1 u0 u1 u2 u3 u4 u5 v0 v1
    have td := cells2 (set2 (.int .i64 r1) (.int .i64 r2) T0.out)
    refine bodyPost_ret (v := .tuple #[.slice none 0 0, err r1 r2]) (by simp [results, Try.results106, go_sem, *]) rfl ?_
    unfold ListP
    rw [EE.out]
    exact ⟨none, 0, rfl, World.ownsRow_nil _ _ _ _, (by repeat' (first | (with_reducible exact Below.refl _ _) | (with_reducible assumption) | (with_reducible refine below_drewN ?_ _) | (with_reducible refine Below.drew ?_) | (with_reducible refine Below.alloc ?_ ?_ _) | (with_reducible refine Below.setCell ?_ ?_ _) | go_size))⟩
end Go.Proofs.Ytnpmgofkfdpbjaa.Tlv
