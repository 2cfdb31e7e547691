/- Plain laws of decoding points in time. No program in sight. -/
import Derived.Test.YtkkgcfllfhkoaaaPlClkB
set_option linter.unusedSimpArgs false
set_option linter.unusedVariables false
namespace Go.Proofs.Ytkkgcfllfhkoaaa.Clk
open Kit

/-- the number in two digits at an index -/
def pr (l : List UInt8) (p : Nat) : Int := (bt l p - 48) * 10 + (bt l (p + 1) - 48)
/-- digits, so many for the year, and a Z -/
def okC (dg : Nat) (l : List UInt8) : Prop := l.length = dg + 11 ∧ bt l (dg + 10) = 90 ∧ ∀ k, k < dg + 10 → 48 ≤ bt l k ∧ bt l k ≤ 57
instance (dg : Nat) (l : List UInt8) : Decidable (okC dg l) := by unfold okC; infer_instance
def yr2 (l : List UInt8) : Int := if pr l 0 < 50 then pr l 0 + 2000 else pr l 0 + 1900
def yr4 (l : List UInt8) : Int := 100 * pr l 0 + pr l 2
theorem pr_bd {l : List UInt8} {dg p : Nat} (h : okC dg l) (hp : p + 1 < dg + 10) : 0 ≤ pr l p ∧ pr l p ≤ 99 := by
  have h1 := h.2.2 p (by omega)
  have h2 := h.2.2 (p + 1) (by omega)
  unfold pr; omega
/-- the contents octets of a UTCTime -/
def okU (l : List UInt8) : Prop := okC 2 l ∧ validB (yr2 l) (pr l 2) (pr l 4) (pr l 6) (pr l 8) (pr l 10) = true
/-- the contents octets of a GeneralizedTime -/
def okG (l : List UInt8) : Prop := okC 4 l ∧ validB (yr4 l) (pr l 4) (pr l 6) (pr l 8) (pr l 10) (pr l 12) = true
instance (l : List UInt8) : Decidable (okU l) := by unfold okU; infer_instance
instance (l : List UInt8) : Decidable (okG l) := by unfold okG; infer_instance
end Go.Proofs.Ytkkgcfllfhkoaaa.Clk
