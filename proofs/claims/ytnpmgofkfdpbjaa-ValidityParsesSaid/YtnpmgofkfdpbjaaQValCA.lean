/- What Parse of validity returns, in every world: the time whose encoding the bytes are, or one error. Turned from ValC. -/
import Derived.Test.YtnpmgofkfdpbjaaKV
set_option linter.unusedSimpArgs false
set_option linter.unusedVariables false
namespace Go.Proofs.Ytnpmgofkfdpbjaa.Val
open Go.RowKit Kit Tlv

def ParA (B : Nat) (A : Option Addr) (n c : Nat) (l : List UInt8) : Prop :=
  (∃ y m d h mi s, valB y m d h mi s = true ∧ l = valL y m d h mi s ∧ ∀ X : World, Rd X B A n l → B ≤ X.heap.size → Calls Try.prog 30 #[.slice A n c] X fun e w' => e = .returned (parR y m d h mi s 0 0) ∧ Below X.heap.size X w') ∨
  ((∀ y m d h mi s, valB y m d h mi s = true → l ≠ valL y m d h mi s) ∧
    ∃ code off, 0 < code ∧ 0 ≤ off ∧ off ≤ (l.length : Int) ∧ ∀ X : World, Rd X B A n l → B ≤ X.heap.size → Calls Try.prog 30 #[.slice A n c] X fun e w' => e = .returned (parR 0 0 0 0 0 0 code off) ∧ Below X.heap.size X w')
theorem parseV_all {A : Option Addr} {n c B : Nat} {l : List UInt8} (hl : l.length = n) (hc : n ≤ c) (hm : c ≤ maxLen) (hn : n ≤ 100000) : ParA B A n c l := by
  by_cases hz : (oneV l).2.1 = 0
  · obtain ⟨k1, k2, k3⟩ := one_con hz
    obtain ⟨d1, d2, d3, d4, d5⟩ := one_bd hz
    generalize hk : (nx l).con = k at *
    generalize hone : oneV l = q at hz k1 k2 k3 d1 d2 d3 d4 d5
    obtain ⟨⟨x0, x1, x2, x3, x4, x5⟩, r1, r2⟩ := q
    simp only [] at hz k1 k2 k3 d1 d2 d3 d4 d5
    rw [hl] at k1
    by_cases hT : (x0 = 0 ∧ x2 = false) ∧ x1 = 23
    · have hT' := hT
      obtain ⟨⟨rfl, rfl⟩, rfl⟩ := hT
      by_cases ok : Clk.okU k
      · obtain ⟨v1, v2⟩ := val_ofU ok
        refine .inl ⟨_, _, _, _, _, _, v1, k2.symm.trans v2.symm, fun X0 h0 b0 => parse_utc X0 h0 b0 hc hm (by omega) hone hz hT' (fun X A1 h => ?_)⟩
        rw [k1] at h
        exact Clk.decUTC_ok X h (by omega) ok
      · refine .inr ⟨fun y m d h mi s hv e => ?_, 6, x4, by omega, by omega, by omega, fun X0 h0 b0 => parse_utc_no X0 h0 b0 hc hm (by omega) hone hz hT' (t0 := 0) (t1 := 0) (t2 := 0) (t3 := 0) (t4 := 0) (t5 := 0) (fun X A1 h => ?_)⟩
        · rw [← k2] at e
          rcases val_enc hv with ⟨a1, a2, a3, a4⟩ | ⟨a1, a2, a3, a4, a5⟩
          · rw [a2] at e
            rw [(enc_inj a3 k3 e).2.2.2] at a4
            exact ok a4
          · rw [a2] at e
            have := (enc_inj a3 k3 e).2.1
            omega
        · rw [k1] at h
          exact Clk.decUTC_no X h (by omega) (by omega) ok
    · by_cases hT4 : (x0 = 0 ∧ x2 = false) ∧ x1 = 24
      · have hT' := hT4
        obtain ⟨⟨rfl, rfl⟩, rfl⟩ := hT4
        by_cases ok : Clk.okG k
        · by_cases hy : 2049 < Clk.yr4 k
          · obtain ⟨v1, v2⟩ := val_ofG ok hy
            refine .inl ⟨_, _, _, _, _, _, v1, k2.symm.trans v2.symm, fun X0 h0 b0 => parse_gen X0 h0 b0 hc hm (by omega) hone hz hT' hy (fun X A1 h => ?_)⟩
            rw [k1] at h
            exact Clk.decGen_ok X h (by omega) ok
          · refine .inr ⟨fun y m d h mi s hv e => ?_, 6, x4, by omega, by omega, by omega, fun X0 h0 b0 => parse_gen_early X0 h0 b0 hc hm (by omega) hone hz hT' (t0 := Clk.yr4 k) (t1 := Clk.pr k 4) (t2 := Clk.pr k 6) (t3 := Clk.pr k 8) (t4 := Clk.pr k 10) (t5 := Clk.pr k 12) (by omega) (fun X A1 h => ?_)⟩
            · rw [← k2] at e
              rcases val_enc hv with ⟨a1, a2, a3, a4⟩ | ⟨a1, a2, a3, a4, a5⟩
              · rw [a2] at e
                have := (enc_inj a3 k3 e).2.1
                omega
              · rw [a2] at e
                rw [(enc_inj a3 k3 e).2.2.2] at a5
                omega
            · rw [k1] at h
              exact Clk.decGen_ok X h (by omega) ok
        · refine .inr ⟨fun y m d h mi s hv e => ?_, 6, x4, by omega, by omega, by omega, fun X0 h0 b0 => parse_gen_no X0 h0 b0 hc hm (by omega) hone hz hT' (t0 := 0) (t1 := 0) (t2 := 0) (t3 := 0) (t4 := 0) (t5 := 0) (by omega) (fun X A1 h => ?_)⟩
          · rw [← k2] at e
            rcases val_enc hv with ⟨a1, a2, a3, a4⟩ | ⟨a1, a2, a3, a4, a5⟩
            · rw [a2] at e
              have := (enc_inj a3 k3 e).2.1
              omega
            · rw [a2] at e
              rw [(enc_inj a3 k3 e).2.2.2] at a4
              exact ok a4
          · rw [k1] at h
            exact Clk.decGen_no X h (by omega) (by omega) ok
      · refine .inr ⟨fun y m d h mi s hv e => ?_, 3, x4, by omega, by omega, by omega, fun X0 h0 b0 => parse_tag X0 h0 b0 hc hm (by omega) hone hz hT hT4⟩
        rw [← k2] at e
        rcases val_enc hv with ⟨a1, a2, a3, a4⟩ | ⟨a1, a2, a3, a4, a5⟩
        · rw [a2] at e
          obtain ⟨i1, i2, i3, _⟩ := enc_inj a3 k3 e
          exact hT ⟨⟨i1.symm, i3.symm⟩, i2.symm⟩
        · rw [a2] at e
          obtain ⟨i1, i2, i3, _⟩ := enc_inj a3 k3 e
          exact hT4 ⟨⟨i1.symm, i3.symm⟩, i2.symm⟩
  · obtain ⟨d1, d2, d3, d4⟩ := one_err (by omega) hz
    have hone : oneV l = (⟨(oneV l).1.cls, (oneV l).1.num, (oneV l).1.cons, (oneV l).1.start, (oneV l).1.body, (oneV l).1.stop⟩, (oneV l).2.1, (oneV l).2.2) := rfl
    refine .inr ⟨fun y m d h mi s hv e => ?_, (oneV l).2.1, (oneV l).2.2, d2, d3, d4, fun X0 h0 b0 => parse_err X0 h0 b0 hc hm (by omega) hone hz⟩
    rw [e] at hz
    rcases val_enc hv with ⟨a1, a2, a3, a4⟩ | ⟨a1, a2, a3, a4, a5⟩
    · rw [a2, one_enc a3] at hz; exact hz rfl
    · rw [a2, one_enc a3] at hz; exact hz rfl
end Go.Proofs.Ytnpmgofkfdpbjaa.Val
