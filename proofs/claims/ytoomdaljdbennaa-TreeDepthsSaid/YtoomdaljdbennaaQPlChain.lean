/- Plain laws of chains: constructed elements in one another. No program in sight. -/
import Derived.Test.YtoomdaljdbennaaKNE
set_option linter.unusedSimpArgs false
set_option linter.unusedVariables false
namespace Go.Proofs.Ytoomdaljdbennaa.Tree
open Kit Cur Tlv

/-- so many constructed elements round a primitive one -/
def chainT (c : Int) (con : List UInt8) : Nat → T
  | 0 => .mk c 4 false con []
  | k + 1 => .mk c 16 true [] [chainT c con k]
variable {c : Int} {con : List UInt8}
theorem chain_fits : ∀ k, Fits k (chainT c con k)
  | 0 => rfl
  | k + 1 => fun x hx => by
    have : x = chainT c con k := by simpa [chainT, T.kids] using hx
    subst this; exact chain_fits k
theorem chain_count : ∀ k, countT k (chainT c con k) = k + 1
  | 0 => rfl
  | k + 1 => by simp [countT, chainT, T.kids, chain_count k]; omega
theorem chain_depth : ∀ k, depthT k (chainT c con k) = k + 1
  | 0 => rfl
  | k + 1 => by simp [depthT, chainT, T.kids, maxL, chain_depth k]; omega
theorem chain_bytes : ∀ k, (bytesT k (chainT c con k)).length ≤ con.length + 10 * (k + 1)
  | 0 => by
    have := encL_len c 4 false con
    simp only [bytesT, chainT, T.cls, T.num, T.cons, T.con]
    omega
  | k + 1 => by
    have h := encL_len c 16 true ([] ++ [chainT c con k].flatMap (bytesT k))
    have h2 := chain_bytes k
    have e : (([] : List UInt8) ++ [chainT c con k].flatMap (bytesT k)).length = (bytesT k (chainT c con k)).length := by simp
    rw [e] at h
    show (encL c true 16 ([] ++ [chainT c con k].flatMap (bytesT k))).length ≤ _
    omega
theorem chain_code (h0 : 0 ≤ c) (h1 : c ≤ 3) {n : Int} (hn : n = 4 ∨ n = 16) : idCode c n = 0 := by
  unfold idCode; rw [if_neg (by unfold idBad; omega)]
theorem chain_lens (hl : con.length ≤ 1000) : ∀ k, k ≤ 1000 → LensOk k (chainT c con k)
  | 0, _ => lenCode_ok (Int.natCast_nonneg _) (by simp only [chainT, T.con]; omega)
  | k + 1, hk => by
    refine ⟨?_, fun x hx => ?_⟩
    · have h2 := chain_bytes (c := c) (con := con) k
      have e : ((T.mk c 16 true [] [chainT c con k]).con ++ (T.mk c 16 true [] [chainT c con k]).kids.flatMap (bytesT k)).length = (bytesT k (chainT c con k)).length := by simp [T.con, T.kids]
      exact lenCode_ok (Int.natCast_nonneg _) (by show ((((T.mk c 16 true [] [chainT c con k]).con ++ (T.mk c 16 true [] [chainT c con k]).kids.flatMap (bytesT k)).length : Nat) : Int) ≤ _; rw [e]; omega)
    · have : x = chainT c con k := by simpa [chainT, T.kids] using hx
      subst this; exact chain_lens hl k (by omega)
theorem chain_shaped (h0 : 0 ≤ c) (h1 : c ≤ 3) : ∀ k, shapedT k (chainT c con k) = true
  | 0 => nodeOk_iff.2 ⟨chain_code h0 h1 (.inl rfl), (fun h => by cases h), fun _ => rfl⟩
  | k + 1 => by
    have h := chain_shaped h0 h1 k
    have hn : nodeOk (chainT c con (k + 1)) = true := nodeOk_iff.2 ⟨chain_code h0 h1 (.inr rfl), (fun _ => rfl), fun h => by cases h⟩
    simp only [shapedT, hn, Bool.true_and]
    simp [chainT, T.kids, h]
theorem chain_valid (h0 : 0 ≤ c) (h1 : c ≤ 3) (k : Nat) : validT 16 (chainT c con k) = decide (k + 1 ≤ 16) := by
  rw [valid_eq 16 k _ (chain_fits k), chain_shaped h0 h1 k, chain_depth, Bool.true_and]
/-- TOO MANY OF THEM are no tree -/
theorem chain_deep (h0 : 0 ≤ c) (h1 : c ≤ 3) (hl : con.length ≤ 1000) : ∀ (D k : Nat), D ≤ k → k ≤ 1000 → ∀ more, (readT D (bytesT k (chainT c con k) ++ more)).code = 5
  | 0, _, _, _, _ => rfl
  | D + 1, 0, h, _, _ => by omega
  | D + 1, k + 1, h, hk, more => by
    have hle := chain_lens (c := c) (con := con) hl (k + 1) hk
    have hc : encCode c 16 ([] ++ [chainT c con k].flatMap (bytesT k)).length = 0 := encCode_mk (chain_code h0 h1 (.inr rfl)) hle.1
    have hnx := nx_enc (b := true) hc more
    have e : ([] : List UInt8) ++ [chainT c con k].flatMap (bytesT k) = bytesT k (chainT c con k) := by simp
    rw [e] at hnx
    have eb : bytesT (k + 1) (chainT c con (k + 1)) = encL c true 16 (bytesT k (chainT c con k)) := by
      show encL c true 16 ([] ++ [chainT c con k].flatMap (bytesT k)) = _
      rw [e]
    rw [eb]
    have ih := chain_deep h0 h1 hl D k (by omega) (by omega) []
    rw [List.append_nil] at ih
    have hcb := count_bytes k _ (chain_shaped (c := c) (con := con) h0 h1 k) (chain_lens hl k (by omega))
    rw [chain_count] at hcb
    generalize encL c true 16 (bytesT k (chainT c con k)) ++ more = l at *
    generalize bytesT k (chainT c con k) = m at *
    have k5 : (kidsA (readT D) (nx l).con ((nx l).con.length + 1) 0 []).2.1 = 5 := by
      rw [hnx]
      simp only []
      have hm : 0 < m.length := by omega
      rw [kidsA_err (f := m.length) (acc := []) hm (by rw [List.drop_zero, ih]; decide)]
      simp only [List.drop_zero]
      exact ih
    rw [readT_kerr (d := D) (l := l) (by rw [hnx]; simp) (by rw [hnx]) (by rw [k5]; decide)]
    exact k5
theorem chain_parse (h0 : 0 ≤ c) (h1 : c ≤ 3) (hl : con.length ≤ 1000) {k : Nat} (hk : k ≤ 1000) :
    (k + 1 ≤ 16 → withinT (bytesT k (chainT c con k)) 16 = (chainT c con k, 0, 0)) ∧ (¬ k + 1 ≤ 16 → (withinT (bytesT k (chainT c con k)) 16).2.1 = 5) := by
  constructor
  · intro h
    exact parse_back (chain_fits k) (by rw [chain_valid h0 h1]; simpa using h) (chain_lens hl k hk)
  · intro h
    have := chain_deep h0 h1 hl 16 k (by omega) hk []
    rw [List.append_nil] at this
    unfold withinT
    rw [if_neg (by omega)]
    exact this
theorem chain_enc (h0 : 0 ≤ c) (h1 : c ≤ 3) (hl : con.length ≤ 1000) {k : Nat} (hk : k ≤ 1000) : EncOk k (chainT c con k) :=
  ⟨chain_shaped h0 h1 k, chain_lens hl k hk, by rw [chain_count]; omega, by have := chain_bytes (c := c) (con := con) k; omega⟩
end Go.Proofs.Ytoomdaljdbennaa.Tree
