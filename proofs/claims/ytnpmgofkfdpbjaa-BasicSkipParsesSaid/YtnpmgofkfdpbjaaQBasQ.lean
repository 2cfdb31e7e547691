/- What ParseSkip of basic returns: the record whose encoding the bytes are, or an error. -/
import Derived.Test.YtnpmgofkfdpbjaaQBasP
set_option linter.unusedSimpArgs false
set_option linter.unusedVariables false
namespace Go.Proofs.Ytnpmgofkfdpbjaa.Bas
open Go.RowKit Kit Tlv

/-- the parts of policy constraints -/
def skiS (hr : Bool) (r : Int) (hi : Bool) (i : Int) : List Sh := (if hr = true then [(2, 0, false, Int4.intL r)] else []) ++ (if hi = true then [(2, 1, false, Int4.intL i)] else [])
theorem skiS_enc (hr : Bool) (r : Int) (hi : Bool) (i : Int) : catS (skiS hr r hi i) = skiP hr r hi i := by
  unfold skiS skiP
  cases hr <;> cases hi <;> simp [catS, encS, nmL]
theorem skiS_cod {hr hi : Bool} {r i : Int} (h : cntB r = true) (h' : cntB i = true) : ∀ q, q ∈ skiS hr r hi i → codS q := by
  intro q hq
  unfold skiS at hq
  have h1 : codS (2, 0, false, Int4.intL r) := nm_code (c := 2) (t := 0) (by omega) (by omega) (int_bd h)
  have h2 : codS (2, 1, false, Int4.intL i) := nm_code (c := 2) (t := 1) (by omega) (by omega) (int_bd h')
  cases hr <;> cases hi <;> simp at hq
  · subst hq; exact h2
  · subst hq; exact h1
  · rcases hq with rfl | rfl
    · exact h1
    · exact h2
def SpOk (w : World) (args : Array Value) (l : List UInt8) : Prop :=
  ∃ hr r hi i, skiB hr r hi i = true ∧ l = skiL hr r hi i ∧ Calls Try.prog 65 args w fun e w' => e = .returned (spR hr r hi i 0 0) ∧ Below w.heap.size w w'
def SpNo (w : World) (args : Array Value) (l : List UInt8) : Prop :=
  (∀ hr r hi i, skiB hr r hi i = true → l ≠ skiL hr r hi i) ∧ ∃ code off, 0 < code ∧ 0 ≤ off ∧ off ≤ (l.length : Int) ∧ Calls Try.prog 65 args w fun e w' => e = .returned (spR false 0 false 0 code off) ∧ Below w.heap.size w w'
theorem ski_fwd {hr hi : Bool} {r i : Int} (h : skiB hr r hi i = true) : ∃ els, partsV (skiL hr r hi i) 0 16 = (els, 0, 0) ∧ els.map (shX (skiL hr r hi i)) = skiS hr r hi i := by
  obtain ⟨_, h1, _, h2, _⟩ := skiB_iff.1 h
  have hl := skiP_len (hr := hr) (hi := hi) h1 h2
  rw [(ski_yes h).2, ← skiS_enc]
  exact parts_fwd (skiS_cod h1 h2) (by rw [skiS_enc]; exact seq_code (by omega)) (by rw [skiS_enc]; omega)
theorem okS_of {l : List UInt8} {t n : Int} {x : El} (hn : cntB n = true) (h : shX l x = (2, t, false, Int4.intL n)) : okN l 2 x.num x = true ∧ x.num = t := by
  have h1 := (okN_of hn h).1
  unfold shX at h
  injection h with e1 e2
  injection e2 with e2 e3
  exact ⟨by rw [e2]; exact h1, e2⟩
theorem ski_shape {l : List UInt8} {els : List El} {hr hi : Bool} {r i : Int} (h : skiB hr r hi i = true) (e : els.map (shX l) = skiS hr r hi i) :
    (∃ x, els = [x] ∧ okN l 2 x.num x = true ∧ (x.num = 0 ∨ x.num = 1)) ∨ (∃ x y, els = [x, y] ∧ okN l 2 x.num x = true ∧ x.num = 0 ∧ okN l 2 y.num y = true ∧ y.num = 1) := by
  obtain ⟨h0, h1, _, h2, _⟩ := skiB_iff.1 h
  cases hr <;> cases hi
  · simp at h0
  · match els, e with
    | [x], e =>
      simp only [skiS, List.map_cons, List.map_nil, if_true, Bool.false_eq_true, if_false, List.nil_append, List.cons.injEq] at e
      obtain ⟨a, b⟩ := okS_of h2 e.1
      exact .inl ⟨x, rfl, a, .inr b⟩
    | [], e => simp [skiS] at e
    | x :: y :: z, e => simp [skiS] at e
  · match els, e with
    | [x], e =>
      simp only [skiS, List.map_cons, List.map_nil, if_true, Bool.false_eq_true, if_false, List.append_nil, List.cons.injEq] at e
      obtain ⟨a, b⟩ := okS_of h1 e.1
      exact .inl ⟨x, rfl, a, .inl b⟩
    | [], e => simp [skiS] at e
    | x :: y :: z, e => simp [skiS] at e
  · match els, e with
    | [x, y], e =>
      simp only [skiS, List.map_cons, List.map_nil, if_true, List.singleton_append, List.cons.injEq] at e
      obtain ⟨a, b⟩ := okS_of h1 e.1
      obtain ⟨a', b'⟩ := okS_of h2 e.2.1
      exact .inr ⟨x, y, rfl, a, b, a', b'⟩
    | [], e => simp [skiS] at e
    | [x], e => simp [skiS] at e
    | x :: y :: z :: u, e => simp [skiS] at e

theorem skparse_any {A : Option Addr} {n c B : Nat} {l : List UInt8} (w : World) (hr : Rd w B A n l) (hB : B ≤ w.heap.size) (hc : n ≤ c) (hm : c ≤ maxLen) (hn : n ≤ 1000000) :
    SpOk w #[.slice A n c] l ∨ SpNo w #[.slice A n c] l := by
  have hl := hr.len
  obtain ⟨els, r1, r2, hpv⟩ : ∃ els r1 r2, partsV l 0 16 = (els, r1, r2) := ⟨_, _, _, rfl⟩
  have fwd : ∀ a r b i, skiB a r b i = true → l = skiL a r b i → r1 = 0 ∧ els.map (shX l) = skiS a r b i := fun a r b i hv e => by
    obtain ⟨els', h1, h2⟩ := ski_fwd hv
    rw [← e] at h1 h2
    rw [hpv] at h1
    injection h1 with h3 h4
    injection h4 with h4
    exact ⟨h4, by rw [h3]; exact h2⟩
  by_cases hz : r1 = 0
  · obtain ⟨hz2, hle, hcod, hbd⟩ := parts_bwd (l := l) (by omega) (by rw [hpv, hz])
    have hcall := fun (x : El) (hx : x ∈ els) (X : World) (hX : Below w.heap.size w X) => callN 2 x.num (hbd x hx) X (hr.below (hX.mono hB)) (Nat.le_trans hB hX.size) hc hn
    have hnn : ∀ x, x ∈ els → 0 ≤ x.num := fun x hx => by
      have h1 := (encCode_ok (hcod _ (List.mem_map_of_mem hx))).1
      simp only [shX] at h1
      unfold idCode at h1
      by_cases hb : idBad x.cls x.num
      · rw [if_pos hb] at h1; omega
      · unfold idBad at hb; omega
    have SH : ∀ a r b i, skiB a r b i = true → l = skiL a r b i → _ := fun a r b i hv e => ski_shape hv (fwd a r b i hv e).2
    clear fwd hcod
    obtain _ | ⟨x, xs⟩ := els
    · refine .inr ⟨fun a r b i hv e => ?_, 1, n, by omega, by omega, by omega, sp_nil w hr hB hc hm hn hpv hz hz2 rfl⟩
      rcases SH a r b i hv e with ⟨_, e', _⟩ | ⟨_, _, e', _⟩ <;> cases e'
    have hx0 := hcall x (by simp)
    have hbx := hbd x (by simp)
    have hnx := hnn x (by simp)
    cases hok : okN l 2 x.num x with
    | false =>
      refine .inr ⟨fun a r b i hv e => ?_, 6, x.start, by omega, hbx.1, by omega, sp_bad0a (v1 := 0) (v2 := 0) (ok1 := true) (ok2 := true) w hr hB hc hm hn hpv hz hz2 rfl rfl hx0 hok⟩
      rcases SH a r b i hv e with ⟨_, e', h1, _⟩ | ⟨_, _, e', h1, _⟩ <;> cases e' <;> rw [h1] at hok <;> cases hok
    | true =>
    by_cases h1x : 1 < x.num
    · refine .inr ⟨fun a r b i hv e => ?_, 6, x.start, by omega, hbx.1, by omega, sp_bad0b (v1 := 0) (v2 := 0) (ok1 := true) (ok2 := true) w hr hB hc hm hn hpv hz hz2 rfl rfl hx0 hok h1x⟩
      rcases SH a r b i hv e with ⟨_, e', h1, h2⟩ | ⟨_, _, e', h1, h2, _⟩ <;> cases e' <;> omega
    obtain ⟨hcx, hsx⟩ := okN_iff.1 hok
    by_cases h0x : x.num = 0
    · obtain _ | ⟨y, ys⟩ := xs
      · have hb : skiB true (vaN l 2 x.num x) false 0 = true := skiB_iff.2 ⟨.inl rfl, hcx, (fun h => by cases h), by decide, fun _ => rfl⟩
        refine .inl ⟨true, vaN l 2 x.num x, false, 0, hb, ?_, sp_one0 (v1 := 0) (v2 := 0) (ok1 := true) (ok2 := true) w hr hB hc hm hn hpv hz hz2 rfl rfl hx0 hok h0x (by simp)⟩
        rw [(ski_yes hb).2, ← skiS_enc]
        rw [List.map_cons, List.map_nil, hsx] at hle
        simp only [h0x] at hle ⊢
        exact hle
      have hy0 := hcall y (by simp)
      have hby := hbd y (by simp)
      have hny := hnn y (by simp)
      cases hok2 : okN l 2 y.num y with
      | false =>
        refine .inr ⟨fun a r b i hv e => ?_, 6, y.start, by omega, hby.1, by omega, sp_bad1a0 (v2 := 0) (ok2 := true) w hr hB hc hm hn hpv hz hz2 rfl rfl hx0 hy0 hok h0x hok2⟩
        rcases SH a r b i hv e with ⟨_, e', h1, _⟩ | ⟨_, _, e', h1, h2, h3, h4⟩ <;> cases e'
        rw [h3] at hok2; cases hok2
      | true =>
      by_cases h1y : 1 < y.num
      · refine .inr ⟨fun a r b i hv e => ?_, 6, y.start, by omega, hby.1, by omega, sp_bad1b0 (v2 := 0) (ok2 := true) w hr hB hc hm hn hpv hz hz2 rfl rfl hx0 hy0 hok h0x hok2 h1y⟩
        rcases SH a r b i hv e with ⟨_, e', h1, _⟩ | ⟨_, _, e', h1, h2, h3, h4⟩ <;> cases e'
        omega
      by_cases h0y : y.num ≤ 0
      · refine .inr ⟨fun a r b i hv e => ?_, 6, y.start, by omega, hby.1, by omega, sp_bad1c0 (v2 := 0) (ok2 := true) w hr hB hc hm hn hpv hz hz2 rfl rfl hx0 hy0 hok h0x hok2 h1y h0y⟩
        rcases SH a r b i hv e with ⟨_, e', h1, _⟩ | ⟨_, _, e', h1, h2, h3, h4⟩ <;> cases e'
        omega
      have hy1 : y.num = 1 := by omega
      obtain ⟨hcy, hsy⟩ := okN_iff.1 hok2
      obtain _ | ⟨z, zs⟩ := ys
      · have hb : skiB true (vaN l 2 x.num x) true (vaN l 2 y.num y) = true := skiB_iff.2 ⟨.inl rfl, hcx, (fun h => by cases h), hcy, fun h => by cases h⟩
        refine .inl ⟨true, vaN l 2 x.num x, true, vaN l 2 y.num y, hb, ?_, sp_two (v2 := 0) (ok2 := true) w hr hB hc hm hn hpv hz hz2 rfl rfl hx0 hy0 hok h0x hok2 hy1 (by simp)⟩
        rw [(ski_yes hb).2, ← skiS_enc]
        rw [List.map_cons, List.map_cons, List.map_nil, hsx, hsy] at hle
        simp only [h0x, hy1] at hle ⊢
        exact hle
      have hz0 := hcall z (by simp)
      have hbz := hbd z (by simp)
      have no : ∀ a r b i, skiB a r b i = true → l ≠ skiL a r b i := fun a r b i hv e => by
        rcases SH a r b i hv e with ⟨_, e', h1, _⟩ | ⟨_, _, e', h1, h2, h3, h4⟩ <;> cases e'
      cases hok3 : okN l 2 z.num z with
      | false => exact .inr ⟨no, 6, z.start, by omega, hbz.1, by omega, sp_bad2a w hr hB hc hm hn hpv hz hz2 rfl rfl hx0 hy0 hz0 hok h0x hok2 hy1 hok3⟩
      | true =>
      by_cases h1z : 1 < z.num
      · exact .inr ⟨no, 6, z.start, by omega, hbz.1, by omega, sp_bad2b w hr hB hc hm hn hpv hz hz2 rfl rfl hx0 hy0 hz0 hok h0x hok2 hy1 hok3 h1z⟩
      · exact .inr ⟨no, 6, z.start, by omega, hbz.1, by omega, sp_bad2c w hr hB hc hm hn hpv hz hz2 rfl rfl hx0 hy0 hz0 hok h0x hok2 hy1 hok3 h1z (by omega)⟩
    · have h1 : x.num = 1 := by omega
      obtain _ | ⟨y, ys⟩ := xs
      · have hb : skiB false 0 true (vaN l 2 x.num x) = true := skiB_iff.2 ⟨.inr rfl, by decide, fun _ => rfl, hcx, fun h => by cases h⟩
        refine .inl ⟨false, 0, true, vaN l 2 x.num x, hb, ?_, sp_one1 (v1 := 0) (v2 := 0) (ok1 := true) (ok2 := true) w hr hB hc hm hn hpv hz hz2 rfl rfl hx0 hok h1 (by simp)⟩
        rw [(ski_yes hb).2, ← skiS_enc]
        rw [List.map_cons, List.map_nil, hsx] at hle
        simp only [h1] at hle ⊢
        exact hle
      have hy0 := hcall y (by simp)
      have hby := hbd y (by simp)
      have no : ∀ a r b i, skiB a r b i = true → l ≠ skiL a r b i := fun a r b i hv e => by
        rcases SH a r b i hv e with ⟨_, e', h1, _⟩ | ⟨_, _, e', h1, h2, h3, h4⟩ <;> cases e'
        omega
      cases hok2 : okN l 2 y.num y with
      | false => exact .inr ⟨no, 6, y.start, by omega, hby.1, by omega, sp_bad1a1 (v2 := 0) (ok2 := true) w hr hB hc hm hn hpv hz hz2 rfl rfl hx0 hy0 hok h1 hok2⟩
      | true =>
      by_cases h1y : 1 < y.num
      · exact .inr ⟨no, 6, y.start, by omega, hby.1, by omega, sp_bad1b1 (v2 := 0) (ok2 := true) w hr hB hc hm hn hpv hz hz2 rfl rfl hx0 hy0 hok h1 hok2 h1y⟩
      · exact .inr ⟨no, 6, y.start, by omega, hby.1, by omega, sp_bad1c1 (v2 := 0) (ok2 := true) w hr hB hc hm hn hpv hz hz2 rfl rfl hx0 hy0 hok h1 hok2 h1y (by omega)⟩
  · obtain ⟨d1, d2, d3⟩ := parts_err (by omega) hpv hz
    refine .inr ⟨fun a r b i hv e => absurd (fwd a r b i hv e).1 hz, r1, r2, d1, d2, d3, sp_err w hr hB hc hm hn hpv hz⟩
end Go.Proofs.Ytnpmgofkfdpbjaa.Bas
