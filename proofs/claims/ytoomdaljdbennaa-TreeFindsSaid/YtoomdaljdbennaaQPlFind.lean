/- Plain laws of paths: what a path leads to, and its octets. No program in sight. -/
import Derived.Test.YtoomdaljdbennaaKNE
set_option linter.unusedSimpArgs false
set_option linter.unusedVariables false
namespace Go.Proofs.Ytoomdaljdbennaa.Tree
open Kit Cur Tlv

/-- the tree that a path leads to -/
def destT : List Int → T → T
  | [], t => t
  | i :: is, t => destT is (t.kids.getD i.toNat T.zero)
theorem findT_step {d : Nat} {i : Int} {is : List Int} {a : Nat} {t : T} (h : (findT d (i :: is) a t).2.2.1 = 0) :
    ∃ j : Nat, i = (j : Int) ∧ ∃ hj : j < t.kids.length, findT d (i :: is) a t = findT (d - 1) is (a + hdT (d - 1) t + szK (d - 1) (t.kids.take j)) t.kids[j] := by
  by_cases hb : i < 0 ∨ (t.kids.length : Int) ≤ i
  · rw [findT_off hb] at h; simp at h
  · obtain ⟨j, rfl⟩ := Int.eq_ofNat_of_zero_le (show 0 ≤ i by omega)
    have hj : j < t.kids.length := by omega
    refine ⟨j, rfl, hj, ?_⟩
    rw [findT_in (List.getElem?_eq_getElem hj), sumS_szK]
/-- the octets of a kid, inside those of the tree -/
theorem kid_octets {d : Nat} {t : T} (h : EncOk (d + 1) t) {j : Nat} (hj : j < t.kids.length) :
    ((bytesT (d + 1) t).drop (hdT d t + szK d (t.kids.take j))).take (szT d t.kids[j]) = bytesT d t.kids[j] ∧ hdT d t + szK d (t.kids.take j) + szT d t.kids[j] ≤ szT (d + 1) t := by
  obtain ⟨h1, h2, h3, h4⟩ := h.node (fun h => by omega)
  obtain ⟨-, o2, o3⟩ := nodeOk_iff.1 h1
  have hcons : t.cons = true := by
    cases hc : t.cons
    · have := o3 hc; rw [this] at hj; simp at hj
    · rfl
  have hcon := o2 hcons
  have e := bytes_eq (d + 1) t (fun h => by omega)
  simp only [Nat.add_sub_cancel] at e h2
  obtain ⟨c1, c2⟩ := encCode_ok h2
  rw [(enc_ok t.cons _ c1 c2).1] at e
  rw [hcon, List.nil_append] at e
  have hfl : t.kids.flatMap (bytesT d) = (t.kids.take j).flatMap (bytesT d) ++ (bytesT d t.kids[j] ++ (t.kids.drop (j + 1)).flatMap (bytesT d)) := by
    conv => lhs; rw [← List.take_append_drop j t.kids, List.flatMap_append, List.drop_eq_getElem_cons hj, List.flatMap_cons]
  generalize hH : ofI (idByte t.cls t.cons t.num) :: lenL ((t.kids.flatMap (bytesT d)).length : Int) = H at *
  have e' : bytesT (d + 1) t = H ++ t.kids.flatMap (bytesT d) := by rw [e, ← hH]; rfl
  have hhd : hdT d t = H.length := by
    unfold hdT szT szK
    rw [e', hcon, List.length_append, List.length_nil]
    omega
  have hsz : szT (d + 1) t = H.length + (t.kids.flatMap (bytesT d)).length := by unfold szT; rw [e', List.length_append]
  have hle := congrArg List.length hfl
  rw [List.length_append, List.length_append] at hle
  have hsk : szK d (t.kids.take j) = ((t.kids.take j).flatMap (bytesT d)).length := rfl
  have hsj : szT d t.kids[j] = (bytesT d t.kids[j]).length := rfl
  constructor
  · rw [e', hfl, ← List.append_assoc, ← List.append_assoc, List.append_assoc, hhd, hsk, hsj]
    rw [show H.length + ((t.kids.take j).flatMap (bytesT d)).length = (H ++ (t.kids.take j).flatMap (bytesT d)).length from by rw [List.length_append], List.drop_left' rfl, List.take_left' rfl]
  · omega
/-- WHAT A PATH LEADS TO: its octets are its encoding -/
theorem find_dest {l : List UInt8} : ∀ (xs : List Int) (d a : Nat) (t : T), Fits d t → EncOk d t → validT 16 t = true → a + szT d t ≤ l.length → (l.drop a).take (szT d t) = bytesT d t → (findT d xs a t).2.2.1 = 0 →
    (findT d xs a t).2.2.2 = 0 ∧ ∃ (p e : Nat), (findT d xs a t).1 = (p : Int) ∧ (findT d xs a t).2.1 = ((p + szT e (destT xs t) : Nat) : Int) ∧ p + szT e (destT xs t) ≤ l.length ∧ (l.drop p).take (szT e (destT xs t)) = bytesT e (destT xs t) ∧
      Fits e (destT xs t) ∧ EncOk e (destT xs t) ∧ validT 16 (destT xs t) = true
  | [], d, a, t, hf, he, hv, hl, hb, _ => ⟨rfl, a, d, rfl, by simp [findT, destT], hl, hb, hf, he, hv⟩
  | i :: is, d, a, t, hf, he, hv, hl, hb, h0 => by
    obtain ⟨j, rfl, hj, e⟩ := findT_step h0
    have hd : ∃ d', d = d' + 1 := by
      cases d with
      | zero => have : t.kids = [] := hf; rw [this] at hj; simp at hj
      | succ d => exact ⟨d, rfl⟩
    obtain ⟨d', rfl⟩ := hd
    simp only [Nat.add_sub_cancel] at e
    rw [e] at h0 ⊢
    have hm := List.getElem_mem hj
    obtain ⟨k1, k2⟩ := kid_octets he hj
    have hdst : destT ((j : Int) :: is) t = destT is t.kids[j] := by
      show destT is (t.kids.getD (j : Int).toNat T.zero) = _
      rw [Int.toNat_natCast, List.getD_eq_getElem?_getD, List.getElem?_eq_getElem hj]; rfl
    rw [hdst]
    refine find_dest is d' _ _ (hf _ hm) (he.kid hm) ?_ (by omega) ?_ h0
    · have h1 : (nodeOk t && t.kids.all (validT 15)) = true := hv
      rw [Bool.and_eq_true, List.all_eq_true] at h1
      exact validT_up (by decide) (h1.2 _ hm)
    · rw [show a + hdT d' t + szK d' (t.kids.take j) = a + (hdT d' t + szK d' (t.kids.take j)) from by omega, ← cut_cut l a (szT (d' + 1) t) _ _ k2, hb, k1]
theorem findW_ok {l : List UInt8} {xs : List Int} (hl : l.length ≤ 1000000) (h : (findW l xs).2.2.1 = 0) :
    (withinT l 16).2.1 = 0 ∧ findW l xs = findT 16 xs 0 (withinT l 16).1 ∧ (findW l xs).2.2.2 = 0 ∧
    ∃ (p e : Nat), (findW l xs).1 = (p : Int) ∧ (findW l xs).2.1 = ((p + szT e (destT xs (withinT l 16).1) : Nat) : Int) ∧ p + szT e (destT xs (withinT l 16).1) ≤ l.length ∧
      withinT ((l.drop p).take (szT e (destT xs (withinT l 16).1))) 16 = (destT xs (withinT l 16).1, 0, 0) := by
  by_cases hw : (withinT l 16).2.1 = 0
  · have e : findW l xs = findT 16 xs 0 (withinT l 16).1 := by unfold findW; rw [if_pos hw]
    rw [e] at h ⊢
    have ps := (parse_ok (by omega) hw).1
    have hsz : szT 16 (withinT l 16).1 = l.length := by unfold szT; rw [ps.bytes]
    obtain ⟨h1, p, q, h2, h3, h4, h5, h6, h7, h8⟩ := find_dest (l := l) xs 16 0 (withinT l 16).1 (fits_le ps.fits (by decide)) (ps.enc hl) ps.valid (by omega) (by rw [List.drop_zero, hsz, List.take_length, ps.bytes]) h
    refine ⟨hw, rfl, h1, p, q, h2, h3, h4, ?_⟩
    rw [h5]
    exact parse_back h6 h8 h7.2.1
  · unfold findW at h
    rw [if_neg hw] at h
    exact absurd h hw
end Go.Proofs.Ytoomdaljdbennaa.Tree
