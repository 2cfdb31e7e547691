/- Plain laws of elements in a slice: the next one, the only one, their list. No program in sight. -/
import Derived.Test.YtnpmgofkfdpbjaaPlTlvC
set_option linter.unusedSimpArgs false
set_option linter.unusedVariables false
namespace Go.Proofs.Ytnpmgofkfdpbjaa.Tlv
open Kit Cur

/-- an element in a slice -/
structure El where
  cls : Int
  num : Int
  cons : Bool
  start : Int
  body : Int
  stop : Int
def El.zero : El := ⟨0, 0, false, 0, 0, 0⟩
/-- what next returns: an element, an error's code and offset -/
def elV (l : List UInt8) (a z : Nat) : El × Int × Int :=
  let r := rh ((l.drop a).take (z - a))
  if r.2.1 ≠ 0 then (El.zero, r.2.1, r.2.2 + a)
  else if (z : Int) - a - r.1.size < r.1.len then (El.zero, 1, z)
  else (⟨r.1.cls, r.1.num, r.1.cons, a, a + r.1.size, a + r.1.size + r.1.len⟩, 0, 0)
theorem elV_bad {l : List UInt8} {a z : Nat} (h : (rh ((l.drop a).take (z - a))).2.1 ≠ 0) : elV l a z = (El.zero, (rh ((l.drop a).take (z - a))).2.1, (rh ((l.drop a).take (z - a))).2.2 + a) := by
  unfold elV; simp only []; rw [if_pos h]
theorem elV_short {l : List UInt8} {a z : Nat} (h : ¬ (rh ((l.drop a).take (z - a))).2.1 ≠ 0) (h2 : (z : Int) - a - (rh ((l.drop a).take (z - a))).1.size < (rh ((l.drop a).take (z - a))).1.len) : elV l a z = (El.zero, 1, (z : Int)) := by
  unfold elV; simp only []; rw [if_neg h, if_pos h2]
theorem elV_ok {l : List UInt8} {a z : Nat} (h : ¬ (rh ((l.drop a).take (z - a))).2.1 ≠ 0) (h2 : ¬ (z : Int) - a - (rh ((l.drop a).take (z - a))).1.size < (rh ((l.drop a).take (z - a))).1.len) :
    elV l a z = (⟨(rh ((l.drop a).take (z - a))).1.cls, (rh ((l.drop a).take (z - a))).1.num, (rh ((l.drop a).take (z - a))).1.cons, a, a + (rh ((l.drop a).take (z - a))).1.size, a + (rh ((l.drop a).take (z - a))).1.size + (rh ((l.drop a).take (z - a))).1.len⟩, 0, 0) := by
  unfold elV; simp only []; rw [if_neg h, if_neg h2]
/-- bounds of what next returns -/
theorem elV_bd {l : List UInt8} {a z : Nat} (ha : a ≤ z) (hz : z ≤ l.length) (hl : l.length ≤ 140737488355328) :
    ((elV l a z).2.1 ≠ 0 → (elV l a z).1 = El.zero ∧ 0 < (elV l a z).2.1 ∧ (elV l a z).2.1 ≤ 4 ∧ (a : Int) ≤ (elV l a z).2.2 ∧ (elV l a z).2.2 ≤ z) ∧
    ((elV l a z).2.1 = 0 → (elV l a z).2.2 = 0 ∧ (elV l a z).1.start = a ∧ (a : Int) + 2 ≤ (elV l a z).1.body ∧ (elV l a z).1.body ≤ (elV l a z).1.stop ∧ (elV l a z).1.stop ≤ z) := by
  have hs : ((l.drop a).take (z - a)).length = z - a := by rw [List.length_take, List.length_drop]; omega
  obtain ⟨d1, d2, d3, d4, d5, d6, d7, d8⟩ := rh_bd ((l.drop a).take (z - a)) (by omega)
  rw [hs] at d8
  by_cases h : (rh ((l.drop a).take (z - a))).2.1 ≠ 0
  · rw [elV_bad h]
    exact ⟨fun _ => ⟨rfl, by simp only []; omega, by simp only []; omega, by simp only []; omega, by simp only []; omega⟩, fun h' => absurd h' h⟩
  · by_cases h2 : (z : Int) - a - (rh ((l.drop a).take (z - a))).1.size < (rh ((l.drop a).take (z - a))).1.len
    · rw [elV_short h h2]
      exact ⟨fun _ => ⟨rfl, by simp only []; omega, by simp only []; omega, by simp only []; omega, by simp only []; omega⟩, fun h' => by simp at h'⟩
    · rw [elV_ok h h2]
      obtain ⟨k0, k1, k2, k3⟩ := rh_ok (by omega : (rh ((l.drop a).take (z - a))).2.1 = 0)
      have hr := rl_read k2
      have hsz : 2 ≤ (rh ((l.drop a).take (z - a))).1.size := by rw [k3]; simp only []; omega
      exact ⟨fun h' => absurd rfl h', fun _ => ⟨rfl, rfl, by simp only []; omega, by simp only []; omega, by simp only []; omega⟩⟩
/-- what One returns -/
def oneV (l : List UInt8) : El × Int × Int :=
  if (elV l 0 l.length).2.1 = 0 ∧ (elV l 0 l.length).1.stop < l.length then (El.zero, 2, (elV l 0 l.length).1.stop) else elV l 0 l.length
theorem elV_full (l : List UInt8) : elV l 0 l.length = if (nx l).code ≠ 0 then (El.zero, (nx l).code, (nx l).off) else (⟨(nx l).hd.cls, (nx l).hd.num, (nx l).hd.cons, 0, (nx l).hd.size, (nx l).hd.size + (nx l).hd.len⟩, 0, 0) := by
  have e : (l.drop 0).take (l.length - 0) = l := by rw [List.drop_zero, Nat.sub_zero, List.take_of_length_le (Nat.le_refl _)]
  unfold elV nx
  rw [e]
  simp only []
  by_cases h : (rh l).2.1 ≠ 0
  · rw [if_pos h, if_pos h]
    simp only []
    rw [if_pos h]
    simp
  · rw [if_neg h, if_neg h]
    by_cases h2 : (l.length : Int) - (rh l).1.size < (rh l).1.len
    · rw [if_pos (by omega), if_pos h2]; simp
    · rw [if_neg (by omega), if_neg h2]; simp
/-- the element that the whole is -/
theorem one_ok {l : List UInt8} (h : (oneV l).2.1 = 0) : (nx l).code = 0 ∧ (nx l).rest = [] ∧ encCode (nx l).hd.cls (nx l).hd.num (nx l).con.length = 0 ∧ encL (nx l).hd.cls (nx l).hd.cons (nx l).hd.num (nx l).con = l ∧
    oneV l = (⟨(nx l).hd.cls, (nx l).hd.num, (nx l).hd.cons, 0, ((1 + (lenL (nx l).con.length).length : Nat) : Int), (l.length : Int)⟩, 0, 0) ∧ (l.drop (1 + (lenL (nx l).con.length).length)) = (nx l).con ∧ 1 + (lenL (nx l).con.length).length + (nx l).con.length = l.length := by
  unfold oneV at h ⊢
  rw [elV_full] at h ⊢
  by_cases hc : (nx l).code ≠ 0
  · rw [if_pos hc] at h
    simp only [] at h
    rw [if_neg (by simp [hc])] at h
    simp only [] at h
    omega
  · rw [if_neg hc] at h ⊢
    obtain ⟨b1, b2, b3, b4, b5⟩ := nx_back (by omega : (nx l).code = 0)
    have el := enc_len (b := (nx l).hd.cons) b1
    have hl := congrArg List.length b2
    rw [List.length_append, el] at hl
    simp only [] at h ⊢
    by_cases hs : (nx l).hd.size + (nx l).hd.len < l.length
    · rw [if_pos ⟨trivial, hs⟩] at h; simp at h
    · have hr : (nx l).rest = [] := List.eq_nil_of_length_eq_zero (by omega)
      rw [if_neg (by simp; omega)]
      rw [hr, List.append_nil] at b2
      rw [hr] at hl
      simp only [List.length_nil] at hl
      refine ⟨by omega, hr, b1, b2, ?_, ?_, by omega⟩
      · rw [b5, b4, ← hl]; simp
      · obtain ⟨i1, i2⟩ := encCode_ok b1
        have h3 := congrArg (List.drop (1 + (lenL (nx l).con.length).length)) b2
        rw [(enc_ok _ _ i1 i2).1] at h3
        rw [Nat.add_comm 1] at h3 ⊢
        rw [List.drop_succ_cons, List.drop_left' rfl] at h3
        exact h3.symm
theorem one_err {l : List UInt8} (hl : l.length ≤ 140737488355328) (h : (oneV l).2.1 ≠ 0) : (oneV l).1 = El.zero ∧ 0 < (oneV l).2.1 ∧ 0 ≤ (oneV l).2.2 ∧ (oneV l).2.2 ≤ l.length := by
  have hb := elV_bd (l := l) (a := 0) (z := l.length) (by omega) (Nat.le_refl _) hl
  unfold oneV at h ⊢
  by_cases hc : (elV l 0 l.length).2.1 = 0 ∧ (elV l 0 l.length).1.stop < l.length
  · rw [if_pos hc] at h ⊢
    have := hb.2 hc.1
    exact ⟨rfl, by simp only []; omega, by simp only []; omega, by simp only []; omega⟩
  · rw [if_neg hc] at h ⊢
    obtain ⟨a1, a2, a3, a4, a5⟩ := hb.1 h
    exact ⟨a1, a2, by omega, a5⟩
/-- an element, read as the whole -/
theorem one_enc {c n : Int} {b : Bool} {k : List UInt8} (h : encCode c n k.length = 0) : oneV (encL c b n k) = (⟨c, n, b, 0, 1 + ((lenL k.length).length : Int), ((encL c b n k).length : Int)⟩, 0, 0) := by
  have hx := nx_enc (b := b) h []
  rw [List.append_nil] at hx
  have el := enc_len (b := b) h
  have e : elV (encL c b n k) 0 (encL c b n k).length = (⟨c, n, b, 0, 1 + ((lenL k.length).length : Int), 1 + ((lenL k.length).length : Int) + (k.length : Int)⟩, 0, 0) := by
    rw [elV_full, hx]
    simp
  unfold oneV
  rw [e]
  have hn : ¬ ((0 : Int) = 0 ∧ 1 + ((lenL k.length).length : Int) + (k.length : Int) < ((encL c b n k).length : Int)) := by rw [el]; omega
  rw [if_neg hn, el]
  congr 2
end Go.Proofs.Ytnpmgofkfdpbjaa.Tlv
