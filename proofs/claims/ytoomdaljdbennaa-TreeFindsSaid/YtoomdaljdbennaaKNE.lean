/- Joined texts: PlTreeE, Awa3, LawT. -/
import Derived.Test.YtoomdaljdbennaaKNB
import Derived.Test.YtoomdaljdbennaaKY
import Derived.Test.YtoomdaljdbennaaKNC
import Derived.Test.YtoomdaljdbennaaKND
import Derived.Test.YtoomdaljdbennaaKA
set_option linter.unusedSimpArgs false
set_option linter.unusedVariables false
/- Plain laws of trees: what is parsed, what Few bounds, chains of constructed elements. No program in sight. -/
namespace Go.Proofs.Ytoomdaljdbennaa.Tree
open Kit Cur Tlv

theorem all_same {f g : T → Bool} : ∀ {ks : List T}, (∀ k, k ∈ ks → f k = g k) → ks.all f = ks.all g
  | [], _ => rfl
  | k :: ks, h => by rw [List.all_cons, List.all_cons, h k (by simp), all_same (fun x hx => h x (by simp [hx]))]
theorem shaped_fits : ∀ {d e : Nat} {t : T}, Fits d t → d ≤ e → shapedT e t = shapedT d t := by
  intro d
  induction d with
  | zero =>
    intro e t h _
    have hk : t.kids = [] := h
    cases e with
    | zero => rfl
    | succ e => simp [shapedT, hk]
  | succ d ih =>
    intro e t h hde
    obtain ⟨e, rfl⟩ : ∃ e', e = e' + 1 := ⟨e - 1, by omega⟩
    simp only [shapedT]
    rw [all_same (fun k hk => ih (h k hk) (by omega))]
theorem lens_fits : ∀ {d e : Nat} {t : T}, Fits d t → d ≤ e → LensOk d t → LensOk e t := by
  intro d
  induction d with
  | zero =>
    intro e t h _ hl
    have hk : t.kids = [] := h
    cases e with
    | zero => exact hl
    | succ e =>
      refine ⟨?_, fun k hk' => by rw [hk] at hk'; simp at hk'⟩
      rw [hk]
      simp only [List.flatMap_nil, List.append_nil]
      exact hl
  | succ d ih =>
    intro e t h hde hl
    obtain ⟨e, rfl⟩ : ∃ e', e = e' + 1 := ⟨e - 1, by omega⟩
    refine ⟨?_, fun k hk => ih (h k hk) (by omega) (hl.2 k hk)⟩
    rw [flatMap_same (fun k hk => bytes_fits (h k hk) (show d ≤ e by omega))]
    exact hl.1
theorem validT_up : ∀ {D E : Nat} {t : T}, D ≤ E → validT D t = true → validT E t = true := by
  intro D
  induction D with
  | zero => intro E t _ h; simp [validT] at h
  | succ D ih =>
    intro E t hde h
    obtain ⟨E, rfl⟩ : ∃ e', E = e' + 1 := ⟨E - 1, by omega⟩
    simp only [validT, Bool.and_eq_true, List.all_eq_true] at h ⊢
    exact ⟨h.1, fun k hk => ih (by omega) (h.2 k hk)⟩
/-- a shaped tree has no more nodes than octets -/
theorem count_bytes : ∀ (d : Nat) (t : T), shapedT d t = true → LensOk d t → countT d t ≤ (bytesT d t).length := by
  intro d
  induction d with
  | zero =>
    intro t hs hl
    have hc : encCode t.cls t.num t.con.length = 0 := encCode_mk (nodeOk_iff.1 hs).1 hl
    have := enc_len (b := t.cons) hc
    simp only [countT, bytesT]
    omega
  | succ d ih =>
    intro t hs hl
    simp only [shapedT, Bool.and_eq_true] at hs
    have hc : encCode t.cls t.num (t.con ++ t.kids.flatMap (bytesT d)).length = 0 := encCode_mk (nodeOk_iff.1 hs.1).1 hl.1
    have h1 := enc_len (b := t.cons) hc
    rw [List.length_append] at h1
    have h2 : ∀ ks : List T, (∀ k, k ∈ ks → k ∈ t.kids) → (ks.map (countT d)).sum ≤ (ks.flatMap (bytesT d)).length := by
      intro ks
      induction ks with
      | nil => intro _; simp
      | cons x xs ihx =>
        intro h
        have h3 := ih x (List.all_eq_true.1 hs.2 x (h x (by simp))) (hl.2 x (h x (by simp)))
        have h4 := ihx (fun k hk => h k (by simp [hk]))
        rw [List.map_cons, List.sum_cons, List.flatMap_cons, List.length_append]
        omega
    have h5 := h2 t.kids (fun k hk => hk)
    simp only [countT, bytesT]
    omega
/-- a tree that was parsed -/
structure Parsed (l : List UInt8) (t : T) : Prop where
  fits : Fits 15 t
  valid : validT 16 t = true
  lens : LensOk 16 t
  bytes : bytesT 16 t = l
  count : countT 16 t ≤ l.length
theorem Parsed.shaped {l : List UInt8} {t : T} (h : Parsed l t) : shapedT 16 t = true := by
  have h1 := h.valid
  rw [valid_eq 16 16 t (fits_le h.fits (by decide)), Bool.and_eq_true] at h1
  exact h1.1
theorem Parsed.enc {l : List UInt8} {t : T} (h : Parsed l t) (hl : l.length ≤ 1000000) : EncOk 16 t :=
  ⟨h.shaped, h.lens, by have := h.count; omega, by rw [h.bytes]; omega⟩
/-- WHAT PARSE RETURNS is the tree that the bytes encode, or an error -/
theorem parse_ok {l : List UInt8} (hl : l.length ≤ 140737488355328) (h : (withinT l 16).2.1 = 0) : Parsed l (withinT l 16).1 ∧ (withinT l 16).2.2 = 0 := by
  have hb := readT_bd 16 l hl
  unfold withinT at h ⊢
  by_cases hc : (readT 16 l).code = 0 ∧ (readT 16 l).size < l.length
  · rw [if_pos hc] at h; simp at h
  · rw [if_neg hc] at h ⊢
    simp only [] at h ⊢
    obtain ⟨b1, b2, b3⟩ := hb.1 h
    have hsz : (readT 16 l).size = l.length := by
      have : ¬ (readT 16 l).size < l.length := fun g => hc ⟨h, g⟩
      omega
    obtain ⟨⟨g1, g2, g3, g4⟩, g5⟩ := read_of 15 l hl h
    have g6 : l = bytesT 15 (readT 16 l).t := by
      rw [hsz, Int.toNat_natCast, List.drop_length, List.append_nil] at g5
      exact g5
    have hf : Fits 16 (readT 16 l).t := fits_le g1 (by decide)
    have hs : shapedT 16 (readT 16 l).t = true := by rw [shaped_fits g1 (by decide)]; exact g2
    have hle : LensOk 16 (readT 16 l).t := lens_fits g1 (by decide) g4
    have hby : bytesT 16 (readT 16 l).t = l := by rw [bytes_fits g1 (by decide)]; exact g6.symm
    refine ⟨⟨g1, ?_, hle, hby, ?_⟩, b1⟩
    · rw [valid_eq 16 15 _ g1, g2, Bool.true_and, decide_eq_true_eq]; exact g3
    · have := count_bytes 16 _ hs hle
      rw [hby] at this
      exact this
theorem parse_err {l : List UInt8} (hl : l.length ≤ 140737488355328) (h : (withinT l 16).2.1 ≠ 0) : (withinT l 16).1 = T.zero ∧ 0 < (withinT l 16).2.1 ∧ 0 ≤ (withinT l 16).2.2 ∧ (withinT l 16).2.2 ≤ l.length := by
  have hb := readT_bd 16 l hl
  unfold withinT at h ⊢
  by_cases hc : (readT 16 l).code = 0 ∧ (readT 16 l).size < l.length
  · rw [if_pos hc]
    obtain ⟨b1, b2, b3⟩ := hb.1 hc.1
    exact ⟨rfl, by simp, by simp only []; omega, by simp only []; omega⟩
  · rw [if_neg hc] at h ⊢
    simp only [] at h ⊢
    obtain ⟨b1, b2, b3, b4, b5⟩ := hb.2 h
    exact ⟨b1, b3, b4, b5⟩
/-- AN ENCODED TREE IS PARSED BACK -/
theorem parse_back {d : Nat} {t : T} (hf : Fits d t) (hv : validT 16 t = true) (hl : LensOk d t) : withinT (bytesT d t) 16 = (t, 0, 0) := by
  have h1 := hv
  rw [valid_eq 16 d t hf, Bool.and_eq_true, decide_eq_true_eq] at h1
  have h := read_back d 16 t hf h1.1 hl h1.2 []
  rw [List.append_nil] at h
  unfold withinT
  rw [h, if_neg (by simp)]
/-- what Few bounds -/
theorem leftK_count {f : T → Int → Int} {g : T → Nat} (hg : ∀ k m, 0 ≤ f k m → (g k : Int) ≤ m - f k m) : ∀ (ks : List T) (m : Int), 0 ≤ leftK f ks m → (((ks.map g).sum : Nat) : Int) ≤ m - leftK f ks m
  | [], m, h => by simp [leftK]
  | k :: ks, m, h => by
    obtain ⟨h1, h2, h3⟩ := leftK_cons h
    rw [h3] at h ⊢
    have h4 := leftK_count hg ks _ h
    have h5 := hg k m h2
    rw [List.map_cons, List.sum_cons]
    omega
theorem left_count : ∀ (d : Nat) (t : T) (m : Int), 0 ≤ leftT d t m → (countT d t : Int) ≤ m - leftT d t m := by
  intro d
  induction d with
  | zero =>
    intro t m h
    simp only [leftT, countT] at h ⊢
    omega
  | succ d ih =>
    intro t m h
    simp only [leftT, countT] at h ⊢
    have h1 := leftK_count (g := countT d) ih _ _ h
    omega
theorem few_of {d : Nat} {t : T} (h : 0 ≤ leftT d t 1500) : countT d t ≤ 1500 ∧ (bytesT d t).length ≤ 15000 ∧ LensOk d t := by
  have h1 := left_count d t 1500 h
  have h2 := left_bytes d t 1500 h
  exact ⟨by omega, by omega, left_lens d t 1500 (by omega) h⟩
end Go.Proofs.Ytoomdaljdbennaa.Tree
/- Walks: law03.awake. -/
namespace Go.Proofs.Ytoomdaljdbennaa.Tree
open Go.RowKit Kit Cur Tlv

def t0 : T := .mk 0 16 true [] [.mk 0 2 false [5] [], .mk 0 17 true [] []]
theorem a1 : withinT [48, 5, 2, 1, 5, 49, 0] 16 = (t0, 0, 0) := by rfl
theorem a2 : withinT [48, 6, 2, 1, 5, 49, 1, 0] 16 = (T.zero, 1, 8) := by rfl
theorem a3 : findW [48, 5, 2, 1, 5, 49, 0] [1] = (5, 7, 0, 0) := by unfold findW; rw [a1]; decide +kernel
theorem a4 : depthT 16 t0 = 2 ∧ countT 16 t0 = 3 ∧ bytesT 16 t0 = [48, 5, 2, 1, 5, 49, 0] ∧ validT 16 t0 = true := by decide +kernel
theorem a5 : LensOk 16 t0 := (parse_ok (l := [48, 5, 2, 1, 5, 49, 0]) (by simp) (by rw [a1])).1.lens
theorem rdi_one (X : World) (x : Int) (S : Nat) (hS : X.heap.size = S) : RdI (X.alloc (.cells #[.int .i64 x] 3)) (X.alloc (.cells #[.int .i64 x] 3)).heap.size (some ⟨S, 0, none⟩) 1 [x] := by
  subst hS
  refine ⟨rfl, fun _ => ⟨_, rfl, by simp, fun k hk => ?_⟩⟩
  obtain rfl : k = 0 := by omega
  have h : (X.alloc (.cells #[.int .i64 x] 3)).heap[X.heap.size]? = some (.cells #[.int .i64 x] 3 (0, 0)) := bk_new rfl
  rw [add_plain, cell_of_row _ _ _ _ _ _ h]
  rfl

set_option maxRecDepth 100000 in
set_option maxHeartbeats 8000000 in
theorem awake3_any (w : World) : Calls Try.prog 10 #[] w fun e w' => e = .returned (.bool true) ∧ Below w.heap.size w w' := by
  have PA := Lib.hid (fun (X : World) (A : Option Addr) (h : Rd X X.heap.size A 7 [48, 5, 2, 1, 5, 49, 0]) => treeparse_any (c := 7) X h (Nat.le_refl _) (Nat.le_refl _) (by unfold maxLen; omega) (by omega))
  rw [a1] at PA
  have PB := Lib.hid (fun (X : World) (A : Option Addr) (h : Rd X X.heap.size A 8 [48, 6, 2, 1, 5, 49, 1, 0]) => treeparse_any (c := 8) X h (Nat.le_refl _) (Nat.le_refl _) (by unfold maxLen; omega) (by omega))
  rw [a2] at PB
  have FI := Lib.hid (fun (X : World) (A : Option Addr) (h : Rd X X.heap.size A 7 [48, 5, 2, 1, 5, 49, 0]) (A2 : Option Addr) (h2 : RdI X X.heap.size A2 1 [1]) => treefind_any (c := 7) (cp := 1) X h h2 (Nat.le_refl _) (Nat.le_refl _) (by unfold maxLen; omega) (by omega) (by omega))
  rw [a3] at FI
  obtain ⟨q1, q2, q3, q4⟩ := a4
  have EN := Lib.hid (fun (X : World) (P : Nat → Prop) (v : Value) (h : NodeR 16 X P v t0) (hP : ∀ b, P b → b < X.heap.size) => treeencode_any 16 X P v t0 h hP (by rw [q2]; omega) a5 (by rw [q3]; simp))
  rw [show encB 16 t0 = [48, 5, 2, 1, 5, 49, 0] from by unfold encB; rw [if_pos q4, q3], show encC t0 = 0 from by unfold encC; rw [if_pos q4]] at EN
  have DE := Lib.hid (fun (X : World) (P : Nat → Prop) (v : Value) (h : NodeR 16 X P v t0) (hP : ∀ b, P b → b < X.heap.size) => depth_any 16 X P v t0 h hP (by rw [q2]; omega))
  rw [q1] at DE
  have CO := Lib.hid (fun (X : World) (P : Nat → Prop) (v : Value) (h : NodeR 16 X P v t0) (hP : ∀ b, P b → b < X.heap.size) => count_any 16 X P v t0 h hP (by rw [q2]; omega))
  rw [q2] at CO
  have VA := Lib.hid (fun (X : World) (P : Nat → Prop) (v : Value) (h : NodeR 16 X P v t0) (hP : ∀ b, P b → b < X.heap.size) => treevalid_any 16 X P v t0 h hP (by rw [q2]; omega))
  rw [q4] at VA
  clear q1 q2 q3 q4
  have L0 := litK w [48, 5, 2, 1, 5, 49, 0] [48, 5, 2, 1, 5, 49, 0] w.heap.size 7 rfl (by decide) (by decide +kernel) rfl
  have B0 : Below w.heap.size w (w.alloc (.cells ([48, 5, 2, 1, 5, 49, 0].map (Value.int .u8)).toArray 5)) := (Below.refl _ _).alloc (Nat.le_refl _) _
  have P1 := Lib.hid (PA.out _ _ L0)
  simp only [List.map_cons, List.map_nil] at P1 L0 B0
  go_enter Try.func10, Try.ntmps10
  go_wp2_with fail
  go_must (go_fit P1.out)
  rintro e w1 ⟨v, rfl, hn, hb1⟩
  have r1 := L0.past hb1
  have bel := two_belowK B0 hb1 B0.size
  obtain ⟨A6, c6, K6, ck6, rfl⟩ : ∃ A6 c6 K6 ck6, v = .agg #[.int .i64 0, .int .i64 16, .bool true, .slice A6 0 c6, .slice K6 2 ck6] := hn.formK
  have NV : NodeR 16 (((w1.alloc (.cells #[.int .i64 0, .int .i64 16, .bool true, .slice A6 0 c6, .slice K6 2 ck6] 26)).alloc (.cells #[.int .i64 0, .int .i64 0] 29)).alloc (.cells #[.int .i64 1] 3)) (fun b => b < w1.heap.size) _ t0 := (hn.mono (P' := fun b => b < w1.heap.size) (fun b h => h.2)).keep (Keeps.trans (Keeps.trans (Keeps.alloc _ _ (fun b h => by omega)) (Keeps.alloc _ _ (fun b h => by simp; omega))) (Keeps.alloc _ _ (fun b h => by simp; omega)))
  clear P1 PA L0 B0 hb1 hn
  have T2 : Hid ((((w1.alloc (.cells #[.int .i64 0, .int .i64 16, .bool true, .slice A6 0 c6, .slice K6 2 ck6] 26)).alloc (.cells #[.int .i64 0, .int .i64 0] 29)).alloc (.cells #[.int .i64 1] 3)).heap[w1.heap.size]? = some (.cells #[.int .i64 0, .int .i64 16, .bool true, .slice A6 0 c6, .slice K6 2 ck6] 26 (0, 0))) := Lib.hid (bk_old (bk_old (bk_new rfl)))
  have T3 : Hid ((((w1.alloc (.cells #[.int .i64 0, .int .i64 16, .bool true, .slice A6 0 c6, .slice K6 2 ck6] 26)).alloc (.cells #[.int .i64 0, .int .i64 0] 29)).alloc (.cells #[.int .i64 1] 3)).heap[w1.heap.size + 1]? = some (.cells #[.int .i64 0, .int .i64 0] 29 (0, 0))) := Lib.hid (bk_old (bk_new (by simp)))
  replace r1 := ((r1.allocS (.cells #[.int .i64 0, .int .i64 16, .bool true, .slice A6 0 c6, .slice K6 2 ck6] 26)).allocS (.cells #[.int .i64 0, .int .i64 0] 29)).allocS (.cells #[.int .i64 1] 3)
  replace bel : Below w.heap.size w (((w1.alloc (.cells #[.int .i64 0, .int .i64 16, .bool true, .slice A6 0 c6, .slice K6 2 ck6] 26)).alloc (.cells #[.int .i64 0, .int .i64 0] 29)).alloc (.cells #[.int .i64 1] 3)) := ((bel.alloc bel.size _).alloc (by have := bel.size; simp; omega) _).alloc (by have := bel.size; simp; omega) _
  have RI := rdi_one ((w1.alloc (.cells #[.int .i64 0, .int .i64 16, .bool true, .slice A6 0 c6, .slice K6 2 ck6] 26)).alloc (.cells #[.int .i64 0, .int .i64 0] 29)) 1 (w1.heap.size + 1 + 1) (by simp)
  have P2 := Lib.hid (FI.out _ _ r1 _ RI)
  have hs1 : (((w1.alloc (.cells #[.int .i64 0, .int .i64 16, .bool true, .slice A6 0 c6, .slice K6 2 ck6] 26)).alloc (.cells #[.int .i64 0, .int .i64 0] 29)).alloc (.cells #[.int .i64 1] 3)).heap.size = w1.heap.size + 3 := by simp
  have hP : ∀ b, b < w1.heap.size → b < (((w1.alloc (.cells #[.int .i64 0, .int .i64 16, .bool true, .slice A6 0 c6, .slice K6 2 ck6] 26)).alloc (.cells #[.int .i64 0, .int .i64 0] 29)).alloc (.cells #[.int .i64 1] 3)).heap.size := fun b h => by omega
  clear FI RI
  have BE := Lib.hid bel
  have R1 := Lib.hid r1
  clear bel r1
  go_wp2_with fail
  go_must (go_fit P2.out)
  rintro e w3 ⟨rfl, hb3⟩
  have hz3 := hb3.size
  rw [hs1] at hz3
  replace NV := NV.keep (Keeps.below hb3 hP)
  clear hP hs1
  replace BE := Lib.hid (two_belowK BE.out hb3 BE.out.size)
  replace R1 := Lib.hid (R1.out.past hb3)
  replace T2 := Lib.hid (stayK T2.out hb3)
  replace T3 := Lib.hid (stayK T3.out hb3)
  clear P2 hb3
  replace NV : NodeR 16 (((w3.alloc (.cells #[.int .i64 5, .int .i64 7] 47)).alloc (.cells #[.int .i64 0, .int .i64 0] 29)).alloc (.cells ([48, 6, 2, 1, 5, 49, 1, 0].map (Value.int .u8)).toArray 5)) (fun b => b < w1.heap.size) _ t0 := NV.keep (Keeps.trans (Keeps.trans (Keeps.alloc _ _ (fun b h => by omega)) (Keeps.alloc _ _ (fun b h => by simp; omega))) (Keeps.alloc _ _ (fun b h => by simp; omega)))
  replace T2 := Lib.hid (bk_old (o' := (.cells ([48, 6, 2, 1, 5, 49, 1, 0].map (Value.int .u8)).toArray 5)) (bk_old (o' := (.cells #[.int .i64 0, .int .i64 0] 29)) (bk_old (o' := (.cells #[.int .i64 5, .int .i64 7] 47)) T2.out)))
  replace T3 := Lib.hid (bk_old (o' := (.cells ([48, 6, 2, 1, 5, 49, 1, 0].map (Value.int .u8)).toArray 5)) (bk_old (o' := (.cells #[.int .i64 0, .int .i64 0] 29)) (bk_old (o' := (.cells #[.int .i64 5, .int .i64 7] 47)) T3.out)))
  have T4 : Hid ((((w3.alloc (.cells #[.int .i64 5, .int .i64 7] 47)).alloc (.cells #[.int .i64 0, .int .i64 0] 29)).alloc (.cells ([48, 6, 2, 1, 5, 49, 1, 0].map (Value.int .u8)).toArray 5)).heap[w3.heap.size]? = some (.cells #[.int .i64 5, .int .i64 7] 47 (0, 0))) := Lib.hid (bk_old (bk_old (bk_new rfl)))
  have T5 : Hid ((((w3.alloc (.cells #[.int .i64 5, .int .i64 7] 47)).alloc (.cells #[.int .i64 0, .int .i64 0] 29)).alloc (.cells ([48, 6, 2, 1, 5, 49, 1, 0].map (Value.int .u8)).toArray 5)).heap[w3.heap.size + 1]? = some (.cells #[.int .i64 0, .int .i64 0] 29 (0, 0))) := Lib.hid (bk_old (bk_new (by simp)))
  replace R1 := Lib.hid (((R1.out.allocS (.cells #[.int .i64 5, .int .i64 7] 47)).allocS (.cells #[.int .i64 0, .int .i64 0] 29)).allocS (.cells ([48, 6, 2, 1, 5, 49, 1, 0].map (Value.int .u8)).toArray 5))
  replace BE : Hid (Below w.heap.size w (((w3.alloc (.cells #[.int .i64 5, .int .i64 7] 47)).alloc (.cells #[.int .i64 0, .int .i64 0] 29)).alloc (.cells ([48, 6, 2, 1, 5, 49, 1, 0].map (Value.int .u8)).toArray 5))) := Lib.hid (((BE.out.alloc BE.out.size _).alloc (by have := BE.out.size; simp; omega) _).alloc (by have := BE.out.size; simp; omega) _)
  have L2 := litK ((w3.alloc (.cells #[.int .i64 5, .int .i64 7] 47)).alloc (.cells #[.int .i64 0, .int .i64 0] 29)) [48, 6, 2, 1, 5, 49, 1, 0] [48, 6, 2, 1, 5, 49, 1, 0] (w3.heap.size + 1 + 1) 8 (by simp) (by decide) (by decide +kernel) rfl
  have P3 := Lib.hid (PB.out _ _ L2)
  have hs3 : (((w3.alloc (.cells #[.int .i64 5, .int .i64 7] 47)).alloc (.cells #[.int .i64 0, .int .i64 0] 29)).alloc (.cells ([48, 6, 2, 1, 5, 49, 1, 0].map (Value.int .u8)).toArray 5)).heap.size = w3.heap.size + 3 := by simp
  have hP : ∀ b, b < w1.heap.size → b < (((w3.alloc (.cells #[.int .i64 5, .int .i64 7] 47)).alloc (.cells #[.int .i64 0, .int .i64 0] 29)).alloc (.cells ([48, 6, 2, 1, 5, 49, 1, 0].map (Value.int .u8)).toArray 5)).heap.size := fun b h => by omega
  clear PB L2
  simp only [List.map_cons, List.map_nil] at P3 NV T2 T3 T4 T5 R1 BE hs3 hP
  go_wp2_with fail
  go_must (go_fit P3.out)
  rintro e w5 ⟨v5, rfl, hn5, hb5⟩
  have hz5 := hb5.size
  rw [hs3] at hz5
  obtain ⟨A7, c7, K7, ck7, rfl⟩ : ∃ A7 c7 K7 ck7, v5 = .agg #[.int .i64 0, .int .i64 0, .bool false, .slice A7 0 c7, .slice K7 0 ck7] := hn5.formK
  replace NV := NV.keep (Keeps.below hb5 hP)
  clear hP hs3 hn5
  replace BE := Lib.hid (two_belowK BE.out hb5 BE.out.size)
  replace R1 := Lib.hid (R1.out.past hb5)
  replace T2 := Lib.hid (stayK T2.out hb5)
  replace T3 := Lib.hid (stayK T3.out hb5)
  replace T4 := Lib.hid (stayK T4.out hb5)
  replace T5 := Lib.hid (stayK T5.out hb5)
  clear P3 hb5
  replace NV : NodeR 16 ((w5.alloc (.cells #[.int .i64 0, .int .i64 0, .bool false, .slice A7 0 c7, .slice K7 0 ck7] 26)).alloc (.cells #[.int .i64 1, .int .i64 8] 29)) (fun b => b < w1.heap.size) _ t0 := NV.keep (Keeps.trans (Keeps.alloc _ _ (fun b h => by omega)) (Keeps.alloc _ _ (fun b h => by simp; omega)))
  replace T2 := Lib.hid (bk_old (o' := (.cells #[.int .i64 1, .int .i64 8] 29)) (bk_old (o' := (.cells #[.int .i64 0, .int .i64 0, .bool false, .slice A7 0 c7, .slice K7 0 ck7] 26)) T2.out))
  replace T3 := Lib.hid (bk_old (o' := (.cells #[.int .i64 1, .int .i64 8] 29)) (bk_old (o' := (.cells #[.int .i64 0, .int .i64 0, .bool false, .slice A7 0 c7, .slice K7 0 ck7] 26)) T3.out))
  replace T4 := Lib.hid (bk_old (o' := (.cells #[.int .i64 1, .int .i64 8] 29)) (bk_old (o' := (.cells #[.int .i64 0, .int .i64 0, .bool false, .slice A7 0 c7, .slice K7 0 ck7] 26)) T4.out))
  replace T5 := Lib.hid (bk_old (o' := (.cells #[.int .i64 1, .int .i64 8] 29)) (bk_old (o' := (.cells #[.int .i64 0, .int .i64 0, .bool false, .slice A7 0 c7, .slice K7 0 ck7] 26)) T5.out))
  have T7 : Hid (((w5.alloc (.cells #[.int .i64 0, .int .i64 0, .bool false, .slice A7 0 c7, .slice K7 0 ck7] 26)).alloc (.cells #[.int .i64 1, .int .i64 8] 29)).heap[w5.heap.size + 1]? = some (.cells #[.int .i64 1, .int .i64 8] 29 (0, 0))) := Lib.hid (bk_new (by simp))
  replace R1 := Lib.hid ((R1.out.allocS (.cells #[.int .i64 0, .int .i64 0, .bool false, .slice A7 0 c7, .slice K7 0 ck7] 26)).allocS (.cells #[.int .i64 1, .int .i64 8] 29))
  replace BE : Hid (Below w.heap.size w ((w5.alloc (.cells #[.int .i64 0, .int .i64 0, .bool false, .slice A7 0 c7, .slice K7 0 ck7] 26)).alloc (.cells #[.int .i64 1, .int .i64 8] 29))) := Lib.hid ((BE.out.alloc BE.out.size _).alloc (by have := BE.out.size; simp; omega) _)
  have hs5 : ((w5.alloc (.cells #[.int .i64 0, .int .i64 0, .bool false, .slice A7 0 c7, .slice K7 0 ck7] 26)).alloc (.cells #[.int .i64 1, .int .i64 8] 29)).heap.size = w5.heap.size + 2 := by simp
  have hP : ∀ b, b < w1.heap.size → b < ((w5.alloc (.cells #[.int .i64 0, .int .i64 0, .bool false, .slice A7 0 c7, .slice K7 0 ck7] 26)).alloc (.cells #[.int .i64 1, .int .i64 8] 29)).heap.size := fun b h => by omega
  have P4 := Lib.hid (EN.out _ _ _ NV hP)
  obtain ⟨u0, u1, u2, u3, u4⟩ := cells5 T2.out
  clear EN
  go_wp2_with fail
  go_must (go_fit P4.out)
  rintro e w6 ⟨A8, c8, rfl, ho8, hb6⟩
  replace NV := NV.keep (Keeps.below hb6 hP)
  have hP : ∀ b, b < w1.heap.size → b < w6.heap.size := fun b h => Nat.lt_of_lt_of_le (hP b h) hb6.size
  replace BE := Lib.hid (two_belowK BE.out hb6 BE.out.size)
  replace R1 := Lib.hid (R1.out.past hb6)
  replace T2 := Lib.hid (stayK T2.out hb6)
  replace T3 := Lib.hid (stayK T3.out hb6)
  replace T4 := Lib.hid (stayK T4.out hb6)
  replace T5 := Lib.hid (stayK T5.out hb6)
  replace T7 := Lib.hid (stayK T7.out hb6)
  have R2 := Lib.hid ho8.rd
  clear P4 hb6 ho8 hs5 hz5 u0 u1 u2 u3 u4
  have P5 := Lib.hid (DE.out _ _ _ NV hP)
  obtain ⟨u0, u1, u2, u3, u4⟩ := cells5 T2.out
  obtain ⟨x0, x1⟩ := cells2 T3.out
  clear DE
  go_wp2_with fail
  go_must (go_fit P5.out)
  rintro e w7 ⟨rfl, hb7⟩
  replace NV := NV.keep (Keeps.below hb7 hP)
  have hP : ∀ b, b < w1.heap.size → b < w7.heap.size := fun b h => Nat.lt_of_lt_of_le (hP b h) hb7.size
  replace BE := Lib.hid (two_belowK BE.out hb7 BE.out.size)
  replace R1 := Lib.hid (R1.out.past hb7)
  replace R2 := Lib.hid (R2.out.past hb7)
  replace T2 := Lib.hid (stayK T2.out hb7)
  replace T3 := Lib.hid (stayK T3.out hb7)
  replace T4 := Lib.hid (stayK T4.out hb7)
  replace T5 := Lib.hid (stayK T5.out hb7)
  replace T7 := Lib.hid (stayK T7.out hb7)
  clear P5 hb7 u0 u1 u2 u3 u4 x0 x1
  have P6 := Lib.hid (CO.out _ _ _ NV hP)
  obtain ⟨u0, u1, u2, u3, u4⟩ := cells5 T2.out
  clear CO
  go_wp2_with fail
  go_must (go_fit P6.out)
  rintro e w8 ⟨rfl, hb8⟩
  replace NV := NV.keep (Keeps.below hb8 hP)
  have hP : ∀ b, b < w1.heap.size → b < w8.heap.size := fun b h => Nat.lt_of_lt_of_le (hP b h) hb8.size
  replace BE := Lib.hid (two_belowK BE.out hb8 BE.out.size)
  replace R1 := Lib.hid (R1.out.past hb8)
  replace R2 := Lib.hid (R2.out.past hb8)
  replace T2 := Lib.hid (stayK T2.out hb8)
  replace T3 := Lib.hid (stayK T3.out hb8)
  replace T4 := Lib.hid (stayK T4.out hb8)
  replace T5 := Lib.hid (stayK T5.out hb8)
  replace T7 := Lib.hid (stayK T7.out hb8)
  clear P6 hb8 u0 u1 u2 u3 u4
  obtain ⟨u0, u1, u2, u3, u4⟩ := cells5 T2.out
  obtain ⟨x0, x1⟩ := cells2 T4.out
  obtain ⟨y0, y1⟩ := cells2 T5.out
  obtain ⟨z0, z1⟩ := cells2 T7.out
  have P7 := Lib.hid (bytesK _ _ 7 c8 7 7 _ _ w8 R2.out R1.out)
  rw [Cur.eqB_self] at P7
  go_wp2_with fail
  go_must (go_fit P7.out)
  rintro e w9 ⟨rfl, rfl⟩
  have P8 := Lib.hid (VA.out _ _ _ NV hP)
  clear P7
  go_wp2_with fail
  go_must (go_fit P8.out)
  rintro e w9 ⟨rfl, hb9⟩
  replace BE := Lib.hid (two_belowK BE.out hb9 BE.out.size)
  clear P8 hb9 u0 u1 u2 u3 u4 x0 x1 y0 y1 z0 z1
  go_wp2
  go_ret
  exact ⟨rfl, BE.out⟩
end Go.Proofs.Ytoomdaljdbennaa.Tree
/- Helpers of the laws on trees: nodes of blocks from a place on; what a parse gives. -/
namespace Go.Proofs.Ytoomdaljdbennaa.Tree
open Go.RowKit Kit Cur Tlv

/-- blocks from a place on -/
def InB (L : Nat) (w : World) (b : Nat) : Prop := L ≤ b ∧ b < w.heap.size
theorem InB.lt {L : Nat} {w : World} : ∀ b, InB L w b → b < w.heap.size := fun b h => h.2
theorem NodeR.past {d L : Nat} {w w' : World} {v : Value} {t : T} (h : NodeR d w (InB L w) v t) (hb : Below w.heap.size w w') : NodeR d w' (InB L w') v t :=
  (h.keep (Keeps.below hb InB.lt)).mono (fun b g => ⟨g.1, Nat.lt_of_lt_of_le g.2 hb.size⟩)
theorem NodeR.allocS {d L : Nat} {w : World} {v : Value} {t : T} (h : NodeR d w (InB L w) v t) (o : Obj) : NodeR d (w.alloc o) (InB L (w.alloc o)) v t :=
  h.past ((Below.refl _ _).alloc (Nat.le_refl _) _)
theorem NodeR.setS {d L : Nat} {w : World} {v : Value} {t : T} (h : NodeR d w (InB L w) v t) {a : Addr} (ha : a.block < L) (u : Value) : NodeR d (w.setCell a u) (InB L (w.setCell a u)) v t :=
  (h.keep ((Keeps.refl _ _).set (fun b hb => by have := hb.1; omega) u)).mono (fun b g => ⟨g.1, by simpa using g.2⟩)
theorem NodeR.fresh {d : Nat} {w w' : World} {v : Value} {t : T} (h : NodeR d w' (fun b => w.heap.size ≤ b ∧ b < w'.heap.size) v t) : NodeR d w' (InB w.heap.size w') v t := h
theorem NodeR.lower {d L M : Nat} {w : World} {v : Value} {t : T} (h : NodeR d w (InB L w) v t) (hm : M ≤ L) : NodeR d w (InB M w) v t := h.mono (fun b g => ⟨Nat.le_trans hm g.1, g.2⟩)
theorem NodeR.formV {d : Nat} {w : World} {P : Nat → Prop} {v : Value} {t : T} (h : NodeR d w P v t) :
    ∃ A c K ck, v = .agg #[.int .i64 t.cls, .int .i64 t.num, .bool t.cons, .slice A t.con.length c, .slice K t.kids.length ck] := by
  obtain ⟨A, c, K, ck, rfl, _⟩ := h.form
  exact ⟨A, c, K, ck, rfl⟩
theorem eqT_self {d : Nat} {t : T} (h : Fits d t) : eqT d t t = true := (eqT_iff h).2 rfl
theorem fits_zero (d : Nat) : Fits d T.zero := by cases d <;> simp [Fits, T.zero, T.kids]
theorem countT_zero (d : Nat) : countT d T.zero = 1 := by cases d <;> simp [countT, T.zero, T.kids]
/-- what a parse gives, at least -/
structure Par (t : T) (c o : Int) (n : Nat) : Prop where
  fits : Fits 16 t
  count : countT 16 t ≤ 1000000
  err : (c = 0 ∧ o = 0) ∨ (0 < c ∧ 0 ≤ o ∧ o ≤ (n : Int))
  zero : c ≠ 0 → t = T.zero
theorem par_of {l : List UInt8} (hl : l.length ≤ 1000000) : Par (withinT l 16).1 (withinT l 16).2.1 (withinT l 16).2.2 l.length := by
  by_cases h : (withinT l 16).2.1 = 0
  · obtain ⟨p, ho⟩ := parse_ok (by omega) h
    exact ⟨fits_le p.fits (by decide), by have := p.count; omega, .inl ⟨h, ho⟩, fun g => absurd h g⟩
  · obtain ⟨h1, h2, h3, h4⟩ := parse_err (by omega) h
    exact ⟨by rw [h1]; exact fits_zero _, by rw [h1, countT_zero]; decide, .inr ⟨h2, h3, h4⟩, fun _ => h1⟩
/-- Node, both trees in the world at hand -/
theorem nodeS {d e L M : Nat} {X : World} {v v2 : Value} {t u : T} (h : NodeR d X (InB L X) v t) (h2 : NodeR e X (InB M X) v2 u) (hc : countT d t ≤ 1000000) :
    Calls Try.prog 13 #[v, v2] X fun e w' => e = .returned (.bool (eqT d t u)) ∧ Below X.heap.size X w' := node_any d e X _ _ v v2 t u h h2 InB.lt InB.lt hc
theorem within_par {t : T} {c o : Int} {n : Nat} (h : Par t c o n) (w : World) : Calls Try.prog 14 #[.agg #[.int .i64 c, .int .i64 o], .int .i64 (n : Int)] w fun e w' => e = .returned (.bool true) ∧ Below w.heap.size w w' := by
  rcases h.err with ⟨rfl, rfl⟩ | ⟨h1, h2, h3⟩
  · exact within_ok _ w
  · exact within_err c o _ w h1 h2 h3
end Go.Proofs.Ytoomdaljdbennaa.Tree
