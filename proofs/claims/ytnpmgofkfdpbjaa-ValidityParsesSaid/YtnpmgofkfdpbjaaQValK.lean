/- What ParsePair of validity returns: the two times whose encoding the bytes are, or an error. -/
import Derived.Test.YtnpmgofkfdpbjaaQValJ
import Derived.Test.YtnpmgofkfdpbjaaQValCA
set_option linter.unusedSimpArgs false
set_option linter.unusedVariables false
namespace Go.Proofs.Ytnpmgofkfdpbjaa.Val
open Go.RowKit Kit Tlv Bas

/-- a time's element -/
def shV (y m d h mi s : Int) : Sh := if y ≤ 2049 then (0, 23, false, Clk.utcL y m d h mi s) else (0, 24, false, Clk.genL y m d h mi s)
theorem shV_ok {y m d h mi s : Int} (hv : valB y m d h mi s = true) : codS (shV y m d h mi s) ∧ encS (shV y m d h mi s) = valL y m d h mi s := by
  rcases val_enc hv with ⟨h1, h2, h3, _⟩ | ⟨h1, h2, h3, _⟩
  · unfold shV; rw [if_pos h1]; exact ⟨h3, h2.symm⟩
  · unfold shV; rw [if_neg (by omega)]; exact ⟨h3, h2.symm⟩
theorem pair_yes {y m d h mi s y' m' d' h' mi' s' : Int} (hb : pairB y m d h mi s y' m' d' h' mi' s' = true) :
    valB y m d h mi s = true ∧ valB y' m' d' h' mi' s' = true ∧ pairC y m d h mi s y' m' d' h' mi' s' = 0 ∧ pairL y m d h mi s y' m' d' h' mi' s' = encL 0 true 16 (valL y m d h mi s ++ valL y' m' d' h' mi' s') := by
  unfold pairC pairL
  rw [if_pos hb, if_pos hb]
  unfold pairB at hb
  rw [Bool.and_eq_true] at hb
  exact ⟨hb.1, hb.2, rfl, rfl⟩
theorem pair_mk {y m d h mi s y' m' d' h' mi' s' : Int} (h1 : valB y m d h mi s = true) (h2 : valB y' m' d' h' mi' s' = true) : pairB y m d h mi s y' m' d' h' mi' s' = true := by unfold pairB; rw [h1, h2]; rfl
theorem pair_no {y m d h mi s y' m' d' h' mi' s' : Int} (hb : pairB y m d h mi s y' m' d' h' mi' s' = false) : pairC y m d h mi s y' m' d' h' mi' s' = 8 ∧ pairL y m d h mi s y' m' d' h' mi' s' = [] := by
  unfold pairC pairL; simp [hb]
/-- the encoding of two times, read -/
theorem pair_fwd {y m d h mi s y' m' d' h' mi' s' : Int} (hb : pairB y m d h mi s y' m' d' h' mi' s' = true) :
    ∃ els, partsV (pairL y m d h mi s y' m' d' h' mi' s') 0 16 = (els, 0, 0) ∧ els.map (shX (pairL y m d h mi s y' m' d' h' mi' s')) = [shV y m d h mi s, shV y' m' d' h' mi' s'] := by
  obtain ⟨v1, v2, -, e⟩ := pair_yes hb
  obtain ⟨c1, e1⟩ := shV_ok v1
  obtain ⟨c2, e2⟩ := shV_ok v2
  have l1 := val_len (y := y) (m := m) (d := d) (h := h) (mi := mi) (s := s)
  have l2 := val_len (y := y') (m := m') (d := d') (h := h') (mi := mi') (s := s')
  have hcat : catS [shV y m d h mi s, shV y' m' d' h' mi' s'] = valL y m d h mi s ++ valL y' m' d' h' mi' s' := by simp [catS, e1, e2]
  rw [e, ← hcat]
  have hlen : (catS [shV y m d h mi s, shV y' m' d' h' mi' s']).length ≤ 34 := by rw [hcat, List.length_append]; omega
  refine parts_fwd ?_ (seq_code (by omega)) (by omega)
  intro q hq
  simp only [List.mem_cons, List.not_mem_nil, or_false] at hq
  rcases hq with rfl | rfl
  · exact c1
  · exact c2
theorem pair_inj {y m d h mi s y' m' d' h' mi' s' a b c e f g a' b' c' e' f' g' : Int} (hb : pairB y m d h mi s y' m' d' h' mi' s' = true) (hb' : pairB a b c e f g a' b' c' e' f' g' = true) (he : pairL y m d h mi s y' m' d' h' mi' s' = pairL a b c e f g a' b' c' e' f' g') :
    (y = a ∧ m = b ∧ d = c ∧ h = e ∧ mi = f ∧ s = g) ∧ (y' = a' ∧ m' = b' ∧ d' = c' ∧ h' = e' ∧ mi' = f' ∧ s' = g') := by
  obtain ⟨els, p1, p2⟩ := pair_fwd hb
  obtain ⟨els', q1, q2⟩ := pair_fwd hb'
  obtain ⟨v1, v2, -, -⟩ := pair_yes hb
  obtain ⟨w1, w2, -, -⟩ := pair_yes hb'
  rw [he] at p1 p2
  rw [p1] at q1
  injection q1 with q3 _
  rw [← q3, p2] at q2
  injection q2 with q4 q5
  injection q5 with q5 _
  have e1 := congrArg encS q4
  have e2 := congrArg encS q5
  rw [(shV_ok v1).2, (shV_ok w1).2] at e1
  rw [(shV_ok v2).2, (shV_ok w2).2] at e2
  exact ⟨val_inj v1 w1 e1, val_inj v2 w2 e2⟩

def PpOk (w : World) (args : Array Value) (l : List UInt8) : Prop :=
  ∃ y m d h mi s y' m' d' h' mi' s', pairB y m d h mi s y' m' d' h' mi' s' = true ∧ l = pairL y m d h mi s y' m' d' h' mi' s' ∧ Calls Try.prog 52 args w fun e w' => e = .returned (ppR y m d h mi s y' m' d' h' mi' s' 0 0) ∧ Below w.heap.size w w'
def PpNo (w : World) (args : Array Value) (l : List UInt8) : Prop :=
  (∀ y m d h mi s y' m' d' h' mi' s', pairB y m d h mi s y' m' d' h' mi' s' = true → l ≠ pairL y m d h mi s y' m' d' h' mi' s') ∧
    ∃ code off, 0 < code ∧ 0 ≤ off ∧ off ≤ (l.length : Int) ∧ Calls Try.prog 52 args w fun e w' => e = .returned (ppR 0 0 0 0 0 0 0 0 0 0 0 0 code off) ∧ Below w.heap.size w w'
/-- Parse of one part: its time, or an error -/
theorem part_any {A : Option Addr} {n c B : Nat} {l : List UInt8} (w : World) (hr : Rd w B A n l) (hB : B ≤ w.heap.size) (hc : n ≤ c) (hm : c ≤ maxLen) (hn : n ≤ 1000000) {x : El} {a z : Nat} (ea : x.start = a) (ez : x.stop = z) (hlt : a < z) (hz : z ≤ n) {q : Sh} (hq : (l.drop a).take (z - a) = encS q) (hle : z - a ≤ 100000) :
    ∃ y m d h mi s k o, (∀ X : World, Below w.heap.size w X → Calls Try.prog 30 #[.slice (Option.map (fun x => x.add a) A) (z - a) (c - a)] X fun e X' => e = .returned (parR y m d h mi s k o) ∧ Below X.heap.size X X') ∧
      (0 ≤ o ∧ o + (a : Int) ≤ (n : Int)) ∧ ((k = 0 ∧ valB y m d h mi s = true ∧ encS q = valL y m d h mi s) ∨ (0 < k ∧ ∀ y m d h mi s, valB y m d h mi s = true → encS q ≠ valL y m d h mi s)) := by
  have hcut := hr.cut (k := a) (m := z) (cap := c) (by omega) hz (by omega)
  rw [if_neg (by omega)] at hcut
  simp only [Nat.mul_one] at hcut
  rw [hq] at hcut
  have hlen := hcut.len
  rcases parseV_all (B := B) hlen (show z - a ≤ c - a by omega) (by omega) hle (A := Option.map (fun x => x.add a) A) with ⟨y, m, d, h, mi, s, g1, g2, g3⟩ | ⟨g1, k, o, g2, g3, g4, g5⟩
  · exact ⟨y, m, d, h, mi, s, 0, 0, fun X hX => g3 X (hcut.below (hX.mono hB)) (Nat.le_trans hB hX.size), by omega, .inl ⟨rfl, g1, g2⟩⟩
  · exact ⟨0, 0, 0, 0, 0, 0, k, o, fun X hX => g5 X (hcut.below (hX.mono hB)) (Nat.le_trans hB hX.size), by omega, .inr ⟨g2, g1⟩⟩
theorem parts_bad {l : List UInt8} {els : List El} {r1 r2 : Int} (hl : l.length ≤ 1000000) (h : partsV l 0 16 = (els, r1, r2)) (hz : ¬ r1 = 0) : 0 < r1 ∧ 0 ≤ r2 ∧ r2 ≤ l.length := by
  by_cases h1 : (oneV l).2.1 ≠ 0
  · rw [partsV_err h1] at h
    obtain ⟨d1, d2, d3, d4⟩ := one_err (by omega) h1
    injection h with _ h2
    injection h2 with h2 h3
    omega
  · by_cases h2 : ((oneV l).1.cls = 0 ∧ (oneV l).1.cons = true) ∧ (oneV l).1.num = 16
    · rw [partsV_ok h1 h2] at h
      obtain ⟨d1, d2, d3, d4, d5⟩ := one_bd (by omega : (oneV l).2.1 = 0)
      have hbd := (listV_bd (l := l) (a := (oneV l).1.body.toNat) (z := (oneV l).1.stop.toNat) (by omega) (by omega) (by omega)).2 (by rw [h]; exact hz)
      rw [h] at hbd
      simp only [] at hbd
      omega
    · rw [partsV_tag h1 h2] at h
      injection h with _ h2
      injection h2 with h2 h3
      omega
theorem two_of {α : Type} {l : List α} (h : l.length = 2) : ∃ a b, l = [a, b] := by
  match l, h with
  | [a, b], _ => exact ⟨a, b, rfl⟩

theorem ppair_any {A : Option Addr} {n c B : Nat} {l : List UInt8} (w : World) (hr : Rd w B A n l) (hB : B ≤ w.heap.size) (hc : n ≤ c) (hm : c ≤ maxLen) (hn : n ≤ 100000) :
    PpOk w #[.slice A n c] l ∨ PpNo w #[.slice A n c] l := by
  have hl := hr.len
  obtain ⟨els, r1, r2, hpv⟩ : ∃ els r1 r2, partsV l 0 16 = (els, r1, r2) := ⟨_, _, _, rfl⟩
  -- where the bytes are a pair's encoding
  have back : ∀ y m d h mi s y' m' d' h' mi' s', pairB y m d h mi s y' m' d' h' mi' s' = true → l = pairL y m d h mi s y' m' d' h' mi' s' → r1 = 0 ∧ els.map (shX l) = [shV y m d h mi s, shV y' m' d' h' mi' s'] := by
    intro y m d h mi s y' m' d' h' mi' s' hb e
    obtain ⟨els', p1, p2⟩ := pair_fwd hb
    rw [← e] at p1 p2
    rw [hpv] at p1
    injection p1 with p3 p4
    injection p4 with p4 _
    rw [p3]
    exact ⟨p4, p2⟩
  by_cases hz : r1 = 0
  · subst hz
    obtain ⟨rfl, b1, b2, b3⟩ := parts_bwd (by omega) hpv
    have b4 := parts_part (by omega) hpv
    by_cases hlen : els.length = 2
    · obtain ⟨e0, e1, rfl⟩ := two_of hlen
      obtain ⟨a1, a2, a3, a4, a5⟩ := b3 e0 (by simp)
      obtain ⟨c1, c2, c3, c4, c5⟩ := b3 e1 (by simp)
      obtain ⟨f1, f2⟩ := b4 e0 (by simp)
      obtain ⟨g1, g2⟩ := b4 e1 (by simp)
      have q0 := encS_pos (b2 (shX l e0) (by simp))
      have q1 := encS_pos (b2 (shX l e1) (by simp))
      have z0 := congrArg List.length f2
      have z1 := congrArg List.length g2
      rw [List.length_take, List.length_drop] at z0 z1
      obtain ⟨m0, hm0⟩ : ∃ k : Nat, e0.start = k := ⟨e0.start.toNat, by omega⟩
      obtain ⟨s0, hs0⟩ : ∃ k : Nat, e0.stop = k := ⟨e0.stop.toNat, by omega⟩
      obtain ⟨m1, hm1⟩ : ∃ k : Nat, e1.start = k := ⟨e1.start.toNat, by omega⟩
      obtain ⟨s1, hs1⟩ : ∃ k : Nat, e1.stop = k := ⟨e1.stop.toNat, by omega⟩
      rw [hm0, hs0] at f2 z0
      rw [hm1, hs1] at g2 z1
      simp only [Int.toNat_natCast] at f2 g2 z0 z1
      obtain ⟨y, m, d, h, mi, s, k0, o0, P0, w0, r0⟩ := part_any w hr hB hc hm (by omega) hm0 hs0 (by omega) (by omega) f2 (by omega)
      obtain ⟨y', m', d', h', mi', s', k1, o1, P1, w1, r1⟩ := part_any w hr hB hc hm (by omega) hm1 hs1 (by omega) (by omega) g2 (by omega)
      have TW := pp_two w hr hB hc hm (by omega) hpv hm0 hs0 hm1 hs1 (by omega) (by omega) (by omega) (by omega) P0 P1 (by omega) w1
      have hb1 : l = encL 0 true 16 (encS (shX l e0) ++ encS (shX l e1)) := by
        have := b1
        simp only [List.map_cons, List.map_nil, catS, List.append_nil] at this
        exact this
      rcases r0 with ⟨rfl, v0, x0⟩ | ⟨r0, x0⟩
      · rw [if_pos rfl] at TW
        rcases r1 with ⟨rfl, v1, x1⟩ | ⟨r1, x1⟩
        · rw [if_pos rfl] at TW
          have hp := pair_mk v0 v1
          exact .inl ⟨_, _, _, _, _, _, _, _, _, _, _, _, hp, by rw [(pair_yes hp).2.2.2, ← x0, ← x1]; exact hb1, TW⟩
        · rw [if_neg (by omega)] at TW
          refine .inr ⟨fun a b c e f g a' b' c' e' f' g' hp he => ?_, k1, o1 + m1, r1, by omega, by omega, TW⟩
          obtain ⟨-, hh⟩ := back _ _ _ _ _ _ _ _ _ _ _ _ hp he
          simp only [List.map_cons, List.map_nil] at hh
          injection hh with _ hh
          injection hh with hh _
          obtain ⟨-, v2, -, -⟩ := pair_yes hp
          exact x1 _ _ _ _ _ _ v2 (by rw [hh]; exact (shV_ok v2).2)
      · rw [if_neg (by omega)] at TW
        refine .inr ⟨fun a b c e f g a' b' c' e' f' g' hp he => ?_, k0, o0, r0, by omega, by omega, TW⟩
        obtain ⟨-, hh⟩ := back _ _ _ _ _ _ _ _ _ _ _ _ hp he
        simp only [List.map_cons, List.map_nil] at hh
        injection hh with hh _
        obtain ⟨v2, -, -, -⟩ := pair_yes hp
        exact x0 _ _ _ _ _ _ v2 (by rw [hh]; exact (shV_ok v2).2)
    · refine .inr ⟨fun a b c e f g a' b' c' e' f' g' hp he => ?_, 6, 0, by omega, by omega, by omega, pp_len w hr hB hc hm (by omega) hpv rfl rfl (by omega)⟩
      obtain ⟨-, hh⟩ := back _ _ _ _ _ _ _ _ _ _ _ _ hp he
      have := congrArg List.length hh
      simp at this
      exact hlen this
  · obtain ⟨d1, d2, d3⟩ := parts_bad (by omega) hpv hz
    exact .inr ⟨fun a b c e f g a' b' c' e' f' g' hp he => hz (back _ _ _ _ _ _ _ _ _ _ _ _ hp he).1, r1, r2, d1, d2, d3, pp_err w hr hB hc hm (by omega) hpv hz⟩
end Go.Proofs.Ytnpmgofkfdpbjaa.Val
