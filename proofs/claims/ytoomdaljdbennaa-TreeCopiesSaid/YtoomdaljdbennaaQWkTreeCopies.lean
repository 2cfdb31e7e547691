/- The walk of TreeCopies. Printed by gen_lawt.py. -/
import Derived.Test.YtoomdaljdbennaaKNE
set_option linter.unusedSimpArgs false
set_option linter.unusedVariables false
namespace Go.Proofs.Ytoomdaljdbennaa
open Go.RowKit Kit Cur Tlv Tree

/-- where the first loop of TreeCopies stands -/
def Tree.CopA (W : World) (B n c : Nat) (A : Option Addr) (L b : Nat) (o1 o2 : Obj) (v : Value) (t : T) (i : Value) (wr : World) : Prop :=
  ∃ (k : Nat) (m : List UInt8), i = .int .i64 (k : Int) ∧ k ≤ n ∧ Own wr B A n c m ∧ wr.heap[b]? = some o1 ∧ wr.heap[b + 1]? = some o2 ∧ NodeR 16 wr (InB L wr) v t ∧ Below W.heap.size W wr
/-- where the second loop stands -/
def Tree.CopB (W : World) (S n c : Nat) (A : Option Addr) (b b' : Nat) (o1 o2 o3 o4 : Obj) (v v' : Value) (t : T) (i : Value) (wr : World) : Prop :=
  ∃ (k : Nat) (m : List UInt8), i = .int .i64 (k : Int) ∧ k ≤ n ∧ S ≤ wr.heap.size ∧ Own wr S A n c m ∧ wr.heap[b]? = some o1 ∧ wr.heap[b + 1]? = some o2 ∧ wr.heap[b']? = some o3 ∧ wr.heap[b' + 1]? = some o4 ∧
    NodeR 16 wr (fun x => x < S) v t ∧ NodeR 16 wr (fun x => x < S) v' t ∧ Below W.heap.size W wr
theorem Tree.zero_lens : LensOk 16 T.zero := lens_fits (d := 0) rfl (by decide) (by show lenCode _ = 0; decide)
theorem Tree.zero_bytes : (bytesT 16 T.zero).length = 2 := by decide +kernel
theorem Tree.par_enc {l : List UInt8} (hl : l.length ≤ 1500) : LensOk 16 (withinT l 16).1 ∧ (bytesT 16 (withinT l 16).1).length ≤ 1500 ∧ validT 16 (withinT l 16).1 = true := by
  by_cases h : (withinT l 16).2.1 = 0
  · obtain ⟨p, -⟩ := parse_ok (by omega) h
    exact ⟨p.lens, by rw [p.bytes]; exact hl, p.valid⟩
  · obtain ⟨h1, -⟩ := parse_err (by omega) h
    rw [h1]
    exact ⟨Tree.zero_lens, by rw [Tree.zero_bytes]; decide, by decide⟩

set_option maxRecDepth 100000 in
set_option maxHeartbeats 8000000 in
theorem TreeCopies.walk (A : Option Addr) (n c : Nat) (l : List UInt8) (W : World) (hr : Rd W W.heap.size A n l) (hc : n ≤ c) (hm : c ≤ maxLen) :
    Calls Try.prog 9 #[.slice A n c] W fun e w' => e = .returned (.bool true) ∧ Below W.heap.size W w' := by
  have hl := hr.len
  by_cases hn : 1500 < n
  · have hn' : (1500 : Int) < (n : Int) := by omega
    go_enter Try.func9, Try.ntmps9
    go_wp2_with fail
    go_must (go_fit (awake3_any _))
    rintro e w1 ⟨rfl, hb1⟩
    go_wp2_with fail
    go_must (go_fit (awake3_any _))
    rintro e w2 ⟨rfl, hb2⟩
    go_wp2
    go_ret
    exact ⟨rfl, two_belowK hb1 hb2 hb1.size⟩
  have hn' : ¬ (1500 : Int) < (n : Int) := by omega
  have PAR := Lib.hid (par_of (l := l) (by omega))
  have PEN := Lib.hid (Tree.par_enc (l := l) (by omega))
  rw [hl] at PAR
  have RD1 := Lib.hid (fun (X : World) (A : Option Addr) (c : Nat) (h : Rd X X.heap.size A n l) (hc : n ≤ c) (hm : c ≤ maxLen) => treeparse_any X h (Nat.le_refl _) hc hm (by omega))
  have RD2 := Lib.hid (fun (X : World) (hb : Below W.heap.size W X) => refparse_any X (hr.below hb) hb.size hc hm (by omega))
  have HRB := Lib.hid (fun (X : World) (hb : Below W.heap.size W X) => hr.below hb)
  generalize withinT l 16 = q at *
  obtain ⟨t, qc, qo⟩ := q
  simp only [] at PAR PEN
  clear hr
  go_enter Try.func9, Try.ntmps9
  go_wp2_with fail
  go_must (go_fit (awake3_any _))
  rintro e w1 ⟨rfl, hb1⟩
  have BE := Lib.hid hb1
  clear hb1
  have ow0 : Own (w1.alloc (.cells #[] 5)) w1.heap.size (some ⟨w1.heap.size, 0, none⟩) 0 0 [] := by
    have h := Own.lit (base := w1.heap.size) w1 [] (Nat.le_refl _) (Nat.zero_le _)
    simpa [vs] using h
  have rc0 := ((HRB.out _ BE.out).more BE.out.size).alloc (Nat.le_refl _) (.cells #[] 5)
  go_upto_region 4 with (first | (at_builtin; go_must (refine app rfl (.tmp 20) (.tmp 21) rfl rfl ow0 rfl rc0 (by simp; omega) (by simp) ?_); intro A3 c3 w3 ho3 hg3 hb3 hs3))
  simp only [List.length_nil, Nat.zero_add, List.nil_append] at ho3
  have hx : Below w1.heap.size w1 w3 := ((Below.refl _ _).alloc (Nat.le_refl _) (.cells #[] 5)).trans hb3
  have hcap := ho3.cap
  have hcm := ho3.capMax
  have HG : Hid (∀ g, A3 = some ⟨g, 0, none⟩ → w1.heap.size ≤ g ∧ g < w3.heap.size) := Lib.hid (fun g h => by subst h; exact Own.lt ho3)
  have z01 := BE.out.size
  clear ow0 rc0 hg3 hb3 hs3
  replace BE := Lib.hid (two_belowK BE.out hx BE.out.size)
  clear hx
  have Ow := Lib.hid ho3
  have P1 := Lib.hid (RD1.out w3 A3 c3 ho3.rd hcap hcm)
  clear ho3 RD1
  go_wp2_with fail
  go_must (go_fit P1.out)
  rintro e w4 ⟨v4, rfl, hn4, hb4⟩
  replace hn4 := hn4.fresh
  have hz4 := hb4.size
  replace Ow := Lib.hid (Ow.out.below hb4)
  replace BE := Lib.hid (two_belowK BE.out hb4 BE.out.size)
  clear hb4
  obtain ⟨A4, c4, K4, ck4, rfl⟩ := hn4.formV
  have Na := Lib.hid hn4
  clear hn4
  replace Na := Lib.hid (Na.out.allocS (.cells #[.int .i64 t.cls, .int .i64 t.num, .bool t.cons, .slice A4 t.con.length c4, .slice K4 t.kids.length ck4] 26))
  replace Ow := Lib.hid (Ow.out.alloc (.cells #[.int .i64 t.cls, .int .i64 t.num, .bool t.cons, .slice A4 t.con.length c4, .slice K4 t.kids.length ck4] 26))
  replace BE := Lib.hid (BE.out.alloc BE.out.size (.cells #[.int .i64 t.cls, .int .i64 t.num, .bool t.cons, .slice A4 t.con.length c4, .slice K4 t.kids.length ck4] 26))
  replace Na := Lib.hid (Na.out.allocS (.cells #[.int .i64 qc, .int .i64 qo] 29))
  replace Ow := Lib.hid (Ow.out.alloc (.cells #[.int .i64 qc, .int .i64 qo] 29))
  replace BE := Lib.hid (BE.out.alloc BE.out.size (.cells #[.int .i64 qc, .int .i64 qo] 29))
  have Tan : Hid (((w4.alloc (.cells #[.int .i64 t.cls, .int .i64 t.num, .bool t.cons, .slice A4 t.con.length c4, .slice K4 t.kids.length ck4] 26)).alloc (.cells #[.int .i64 qc, .int .i64 qo] 29)).heap[w4.heap.size]? = some (.cells #[.int .i64 t.cls, .int .i64 t.num, .bool t.cons, .slice A4 t.con.length c4, .slice K4 t.kids.length ck4] 26 (0, 0))) := Lib.hid (bk_old (bk_new rfl))
  have Tae : Hid (((w4.alloc (.cells #[.int .i64 t.cls, .int .i64 t.num, .bool t.cons, .slice A4 t.con.length c4, .slice K4 t.kids.length ck4] 26)).alloc (.cells #[.int .i64 qc, .int .i64 qo] 29)).heap[w4.heap.size + 1]? = some (.cells #[.int .i64 qc, .int .i64 qo] 29 (0, 0))) := Lib.hid (bk_new (by simp))
  clear P1
  have P2 := Lib.hid (bytesK _ _ n c3 n c l l _ Ow.out.rd ((HRB.out _ BE.out).more BE.out.size))
  rw [Cur.eqB_self] at P2
  go_wp2_with fail
  go_must (go_fit P2.out)
  rintro e w5 ⟨rfl, rfl⟩
  clear P2
  have ST := Lib.hid (show Tree.CopA W w1.heap.size n c3 A3 w3.heap.size w4.heap.size (.cells #[.int .i64 t.cls, .int .i64 t.num, .bool t.cons, .slice A4 t.con.length c4, .slice K4 t.kids.length ck4] 26 (0, 0)) (.cells #[.int .i64 qc, .int .i64 qo] 29 (0, 0)) (.agg #[.int .i64 t.cls, .int .i64 t.num, .bool t.cons, .slice A4 t.con.length c4, .slice K4 t.kids.length ck4]) t (.int .i64 0) _ from ⟨0, l, rfl, Nat.zero_le _, Ow.out, Tan.out, Tae.out, Na.out, BE.out⟩)
  clear Ow Tan Tae Na BE
  go_wp2_with fail
  go_loopw [6] (fun i wr => Tree.CopA W w1.heap.size n c3 A3 w3.heap.size w4.heap.size (.cells #[.int .i64 t.cls, .int .i64 t.num, .bool t.cons, .slice A4 t.con.length c4, .slice K4 t.kids.length ck4] 26 (0, 0)) (.cells #[.int .i64 qc, .int .i64 qo] 29 (0, 0)) (.agg #[.int .i64 t.cls, .int .i64 t.num, .bool t.cons, .slice A4 t.con.length c4, .slice K4 t.kids.length ck4]) t i wr) (fun i _ => n - (intOf i).toNat)
  case atStart => exact ST.out
  case round =>
    obtain ⟨k, m, rfl, hk, ho, hn1, he1, hna, hbe⟩ := hrel
    clear ST
    by_cases hlt : k < n
    · obtain ⟨g, hA⟩ := ho.shape (by omega)
      have hgb := HG.out g hA
      subst hA
      have cc := ho.cellAt hlt
      have ff := ho.frozenAt k
      have b1 := bt_lo m k
      have b2 := bt_hi m k
      have ho' := Lib.hid ho
      have hn1' := Lib.hid hn1
      have he1' := Lib.hid he1
      have hna' := Lib.hid hna
      have hbe' := Lib.hid hbe
      clear ho hn1 he1 hna hbe
      go_wp2
      go_roundw
      case rel => exact ⟨k + 1, _, by go_num, by omega, ho'.out.stored k (by omega) (by omega), set_far hn1'.out (by omega) _, set_far he1'.out (by omega) _, NodeR.setS hna'.out (by simp only []; omega) _, Below.setCell hbe'.out (by simp only []; omega) _⟩
      case measure => simp [intOf]; omega
    · have BE := Lib.hid hbe
      have Tan := Lib.hid hn1
      have Tae := Lib.hid he1
      have Na := Lib.hid hna
      clear ho hn1 he1 hna hbe HG
      have P3 := Lib.hid (RD2.out _ BE.out)
      clear RD2
      go_wp2_with fail
      go_must (go_fit P3.out)
      rintro e w6 ⟨v6, rfl, hn6, hb6⟩
      replace hn6 := hn6.fresh
      replace Tan := Lib.hid (stayK Tan.out hb6)
      replace Tae := Lib.hid (stayK Tae.out hb6)
      replace Na := Lib.hid (Na.out.past hb6)
      replace BE := Lib.hid (two_belowK BE.out hb6 BE.out.size)
      clear hb6
      obtain ⟨A6, c6, K6, ck6, rfl⟩ := hn6.formV
      have Nb := Lib.hid hn6
      clear hn6
      replace Tan := Lib.hid (bk_old (o' := (.cells #[.int .i64 t.cls, .int .i64 t.num, .bool t.cons, .slice A6 t.con.length c6, .slice K6 t.kids.length ck6] 26)) Tan.out)
      replace Tae := Lib.hid (bk_old (o' := (.cells #[.int .i64 t.cls, .int .i64 t.num, .bool t.cons, .slice A6 t.con.length c6, .slice K6 t.kids.length ck6] 26)) Tae.out)
      replace Na := Lib.hid (Na.out.allocS (.cells #[.int .i64 t.cls, .int .i64 t.num, .bool t.cons, .slice A6 t.con.length c6, .slice K6 t.kids.length ck6] 26))
      replace Nb := Lib.hid (Nb.out.allocS (.cells #[.int .i64 t.cls, .int .i64 t.num, .bool t.cons, .slice A6 t.con.length c6, .slice K6 t.kids.length ck6] 26))
      replace BE := Lib.hid (BE.out.alloc BE.out.size (.cells #[.int .i64 t.cls, .int .i64 t.num, .bool t.cons, .slice A6 t.con.length c6, .slice K6 t.kids.length ck6] 26))
      replace Tan := Lib.hid (bk_old (o' := (.cells #[.int .i64 qc, .int .i64 qo] 29)) Tan.out)
      replace Tae := Lib.hid (bk_old (o' := (.cells #[.int .i64 qc, .int .i64 qo] 29)) Tae.out)
      replace Na := Lib.hid (Na.out.allocS (.cells #[.int .i64 qc, .int .i64 qo] 29))
      replace Nb := Lib.hid (Nb.out.allocS (.cells #[.int .i64 qc, .int .i64 qo] 29))
      replace BE := Lib.hid (BE.out.alloc BE.out.size (.cells #[.int .i64 qc, .int .i64 qo] 29))
      have Tbn : Hid (((w6.alloc (.cells #[.int .i64 t.cls, .int .i64 t.num, .bool t.cons, .slice A6 t.con.length c6, .slice K6 t.kids.length ck6] 26)).alloc (.cells #[.int .i64 qc, .int .i64 qo] 29)).heap[w6.heap.size]? = some (.cells #[.int .i64 t.cls, .int .i64 t.num, .bool t.cons, .slice A6 t.con.length c6, .slice K6 t.kids.length ck6] 26 (0, 0))) := Lib.hid (bk_old (bk_new rfl))
      have Tbe : Hid (((w6.alloc (.cells #[.int .i64 t.cls, .int .i64 t.num, .bool t.cons, .slice A6 t.con.length c6, .slice K6 t.kids.length ck6] 26)).alloc (.cells #[.int .i64 qc, .int .i64 qo] 29)).heap[w6.heap.size + 1]? = some (.cells #[.int .i64 qc, .int .i64 qo] 29 (0, 0))) := Lib.hid (bk_new (by simp))
      clear P3
      have P4 := Lib.hid (treeencode_any 16 _ _ _ t Na.out InB.lt PAR.out.count PEN.out.1 (by have := PEN.out.2.1; omega))
      rw [show encC t = 0 from by unfold encC; rw [if_pos PEN.out.2.2]] at P4
      have hLl : (encB 16 t).length ≤ 1500 := by unfold encB; rw [if_pos PEN.out.2.2]; exact PEN.out.2.1
      generalize encB 16 t = L at *
      have NA := Lib.hid (Na.out.mono (P' := fun x => x < ((w6.alloc (.cells #[.int .i64 t.cls, .int .i64 t.num, .bool t.cons, .slice A6 t.con.length c6, .slice K6 t.kids.length ck6] 26)).alloc (.cells #[.int .i64 qc, .int .i64 qo] 29)).heap.size) (fun b h => h.2))
      have NB := Lib.hid (Nb.out.mono (P' := fun x => x < ((w6.alloc (.cells #[.int .i64 t.cls, .int .i64 t.num, .bool t.cons, .slice A6 t.con.length c6, .slice K6 t.kids.length ck6] 26)).alloc (.cells #[.int .i64 qc, .int .i64 qo] 29)).heap.size) (fun b h => h.2))
      have zT := Blk_lt Tae.out
      have zU := Blk_lt Tbe.out
      have zW := BE.out.size
      obtain ⟨u0, u1, u2, u3, u4⟩ := cells5 Tan.out
      go_wp2_with fail
      go_must (go_fit P4.out)
      rintro e w7 ⟨A7, c7, rfl, ho7, hb7⟩
      clear u0 u1 u2 u3 u4 P4
      replace NA := Lib.hid (NA.out.keep (Keeps.below hb7 (fun b h => h)))
      replace NB := Lib.hid (NB.out.keep (Keeps.below hb7 (fun b h => h)))
      have Ox := Lib.hid ho7
      have HG : Hid (∀ g, A7 = some ⟨g, 0, none⟩ → ((w6.alloc (.cells #[.int .i64 t.cls, .int .i64 t.num, .bool t.cons, .slice A6 t.con.length c6, .slice K6 t.kids.length ck6] 26)).alloc (.cells #[.int .i64 qc, .int .i64 qo] 29)).heap.size ≤ g) := Lib.hid (fun g h => by subst h; exact (Own.lt ho7).1)
      have hz7 := hb7.size
      clear ho7
      replace Tan := Lib.hid (stayK Tan.out hb7)
      replace Tae := Lib.hid (stayK Tae.out hb7)
      replace Tbn := Lib.hid (stayK Tbn.out hb7)
      replace Tbe := Lib.hid (stayK Tbe.out hb7)
      replace Na := Lib.hid (Na.out.past hb7)
      replace Nb := Lib.hid (Nb.out.past hb7)
      replace BE := Lib.hid (two_belowK BE.out hb7 BE.out.size)
      clear hb7
      obtain ⟨S6, hS6⟩ : ∃ S6, ((w6.alloc (.cells #[.int .i64 t.cls, .int .i64 t.num, .bool t.cons, .slice A6 t.con.length c6, .slice K6 t.kids.length ck6] 26)).alloc (.cells #[.int .i64 qc, .int .i64 qo] 29)).heap.size = S6 := ⟨_, rfl⟩
      rw [hS6] at NA NB Ox HG zT zU zW hz7
      clear hS6
      have P5 := Lib.hid (nodeS Na.out Nb.out PAR.out.count)
      rw [eqT_self PAR.out.fits] at P5
      obtain ⟨x0, x1⟩ := cells2 Tae.out
      obtain ⟨y0, y1⟩ := cells2 Tbe.out
      obtain ⟨u0, u1, u2, u3, u4⟩ := cells5 Tan.out
      obtain ⟨v0, v1, v2, v3, v4⟩ := cells5 Tbn.out
      go_wp2_with fail
      go_must (go_fit P5.out)
      rintro e w8 ⟨rfl, hb8⟩
      clear x0 x1 y0 y1
      clear u0 u1 u2 u3 u4 v0 v1 v2 v3 v4
      clear P5
      have kx : ∀ b, b < S6 → b < w7.heap.size := fun b h => by omega
      have hz8 : S6 ≤ w8.heap.size := by have := hb8.size; omega
      replace NA := Lib.hid (NA.out.keep (Keeps.below hb8 kx))
      replace NB := Lib.hid (NB.out.keep (Keeps.below hb8 kx))
      clear kx
      replace Tan := Lib.hid (stayK Tan.out hb8)
      replace Tae := Lib.hid (stayK Tae.out hb8)
      replace Tbn := Lib.hid (stayK Tbn.out hb8)
      replace Tbe := Lib.hid (stayK Tbe.out hb8)
      replace Na := Lib.hid (Na.out.past hb8)
      replace Nb := Lib.hid (Nb.out.past hb8)
      replace Ox := Lib.hid (Ox.out.below hb8)
      replace BE := Lib.hid (two_belowK BE.out hb8 BE.out.size)
      clear hb8
      have ST := Lib.hid (show Tree.CopB W S6 L.length c7 A7 w4.heap.size w6.heap.size (.cells #[.int .i64 t.cls, .int .i64 t.num, .bool t.cons, .slice A4 t.con.length c4, .slice K4 t.kids.length ck4] 26 (0, 0)) (.cells #[.int .i64 qc, .int .i64 qo] 29 (0, 0)) (.cells #[.int .i64 t.cls, .int .i64 t.num, .bool t.cons, .slice A6 t.con.length c6, .slice K6 t.kids.length ck6] 26 (0, 0)) (.cells #[.int .i64 qc, .int .i64 qo] 29 (0, 0)) (.agg #[.int .i64 t.cls, .int .i64 t.num, .bool t.cons, .slice A4 t.con.length c4, .slice K4 t.kids.length ck4]) (.agg #[.int .i64 t.cls, .int .i64 t.num, .bool t.cons, .slice A6 t.con.length c6, .slice K6 t.kids.length ck6]) t (.int .i64 0) w8 from ⟨0, L, rfl, Nat.zero_le _, hz8, Ox.out, Tan.out, Tae.out, Tbn.out, Tbe.out, NA.out, NB.out, BE.out⟩)
      clear Ox Tan Tae Tbn Tbe NA NB Na Nb BE
      generalize L.length = Ln at *
      go_wp2_with fail
      go_loopw [11] (fun i wr => Tree.CopB W S6 Ln c7 A7 w4.heap.size w6.heap.size (.cells #[.int .i64 t.cls, .int .i64 t.num, .bool t.cons, .slice A4 t.con.length c4, .slice K4 t.kids.length ck4] 26 (0, 0)) (.cells #[.int .i64 qc, .int .i64 qo] 29 (0, 0)) (.cells #[.int .i64 t.cls, .int .i64 t.num, .bool t.cons, .slice A6 t.con.length c6, .slice K6 t.kids.length ck6] 26 (0, 0)) (.cells #[.int .i64 qc, .int .i64 qo] 29 (0, 0)) (.agg #[.int .i64 t.cls, .int .i64 t.num, .bool t.cons, .slice A4 t.con.length c4, .slice K4 t.kids.length ck4]) (.agg #[.int .i64 t.cls, .int .i64 t.num, .bool t.cons, .slice A6 t.con.length c6, .slice K6 t.kids.length ck6]) t i wr) (fun i _ => Ln - (intOf i).toNat)
      case atStart => exact ST.out
      case round =>
        obtain ⟨k, m, rfl, hk, hsz, ho, hn1, he1, hn2, he2, hna, hnb, hbe⟩ := hrel
        clear ST
        by_cases hlt : k < Ln
        · obtain ⟨g, hA⟩ := ho.shape (by omega)
          have hgb := HG.out g hA
          subst hA
          have cc := ho.cellAt hlt
          have ff := ho.frozenAt k
          have b1 := bt_lo m k
          have b2 := bt_hi m k
          have ho' := Lib.hid ho
          have hn1' := Lib.hid hn1
          have he1' := Lib.hid he1
          have hn2' := Lib.hid hn2
          have he2' := Lib.hid he2
          have hna' := Lib.hid hna
          have hnb' := Lib.hid hnb
          have hbe' := Lib.hid hbe
          clear ho hn1 he1 hn2 he2 hna hnb hbe
          go_wp2
          go_roundw
          case rel => exact ⟨k + 1, _, by go_num, by omega, by simpa using hsz, ho'.out.stored k (by omega) (by omega), set_far hn1'.out (by omega) _, set_far he1'.out (by omega) _, set_far hn2'.out (by omega) _, set_far he2'.out (by omega) _, hna'.out.keep ((Keeps.refl _ _).set (by intro b hb; simp only [ne_eq]; omega) _), hnb'.out.keep ((Keeps.refl _ _).set (by intro b hb; simp only [ne_eq]; omega) _), Below.setCell hbe'.out (by simp only []; omega) _⟩
          case measure => simp [intOf]; omega
        · have BE := Lib.hid hbe
          have Tan := Lib.hid hn1
          have Tae := Lib.hid he1
          have Tbn := Lib.hid hn2
          have NA := Lib.hid hna
          have NB := Lib.hid hnb
          clear ho hn1 he1 hn2 he2 hna hnb hbe HG
          have P6 := Lib.hid (nodeS (L := 0) (M := 0) (NA.out.mono (fun b h => ⟨Nat.zero_le _, by omega⟩)) (NB.out.mono (fun b h => ⟨Nat.zero_le _, by omega⟩)) PAR.out.count)
          rw [eqT_self PAR.out.fits] at P6
          obtain ⟨x0, x1⟩ := cells2 Tae.out
          obtain ⟨u0, u1, u2, u3, u4⟩ := cells5 Tan.out
          obtain ⟨v0, v1, v2, v3, v4⟩ := cells5 Tbn.out
          by_cases hz : qc = 0
          · subst hz
            go_wp2_with fail
            go_must (go_fit P6.out)
            rintro e w9 ⟨rfl, hb9⟩
            clear x0 x1 u0 u1 u2 u3 u4 v0 v1 v2 v3 v4 P6
            replace BE := Lib.hid (two_belowK BE.out hb9 BE.out.size)
            clear hb9
            go_wp2
            go_ret
            exact ⟨rfl, BE.out⟩
          · go_wp2
            go_ret
            exact ⟨rfl, BE.out⟩
end Go.Proofs.Ytoomdaljdbennaa
