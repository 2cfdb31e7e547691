/- The walk of TreeFinds. Printed by gen_lawt.py. -/
import Derived.Test.YtoomdaljdbennaaQPlFind
import Derived.Test.YtoomdaljdbennaaQSpoE
set_option linter.unusedSimpArgs false
set_option linter.unusedVariables false
namespace Go.Proofs.Ytoomdaljdbennaa
open Go.RowKit Kit Cur Tlv Tree

/-- where the loop of TreeFinds stands -/
def Tree.DstL (W : World) (b9 b11 m : Nat) (xs : List Int) (u : T) (o9 : Obj) (vu : Value) (i : Value) (wr : World) : Prop :=
  ∃ (k d a : Nat) (t : T) (A6 : Option Addr) (c6 : Nat) (K6 : Option Addr) (ck6 : Nat), i = .int .i64 (k : Int) ∧ k ≤ m ∧ (findT d (xs.drop k) a t).2.2.1 = 0 ∧ destT (xs.drop k) t = u ∧
    wr.heap[b11]? = some (.cells #[.int .i64 t.cls, .int .i64 t.num, .bool t.cons, .slice A6 t.con.length c6, .slice K6 t.kids.length ck6] 26 (0, 0)) ∧
    NodeR d wr (fun b => b < b11) (.agg #[.int .i64 t.cls, .int .i64 t.num, .bool t.cons, .slice A6 t.con.length c6, .slice K6 t.kids.length ck6]) t ∧
    wr.heap[b9]? = some o9 ∧ wr.heap[b9 + 1]? = some (.cells #[.int .i64 0, .int .i64 0] 29 (0, 0)) ∧ wr.heap[b11 + 1]? = some (.cells #[.int .i64 0, .int .i64 0] 29 (0, 0)) ∧
    NodeR 16 wr (fun b => b < b11) vu u ∧ Below W.heap.size W wr

set_option maxRecDepth 100000 in
set_option maxHeartbeats 8000000 in
theorem TreeFinds.walk (A : Option Addr) (n c : Nat) (l : List UInt8) (A2 : Option Addr) (m cp : Nat) (xs : List Int) (W : World) (hr : Rd W W.heap.size A n l) (hc : n ≤ c) (hm : c ≤ maxLen) (hi : RdI W W.heap.size A2 m xs) (hc2 : m ≤ cp) (hm2 : cp ≤ maxLen) :
    Calls Try.prog 7 #[.slice A n c, .slice A2 m cp] W fun e w' => e = .returned (.bool true) ∧ Below W.heap.size W w' := by
  have hl := hr.len
  have hxl := hi.1
  by_cases hn : 1500 < n
  · have hn' : (1500 : Int) < (n : Int) := by omega
    go_enter Try.func7, Try.ntmps7
    go_wp2_with fail
    go_must (go_fit (awake3_any _))
    rintro e w1 ⟨rfl, hb1⟩
    go_wp2_with fail
    go_must (go_fit (awake3_any _))
    rintro e w2 ⟨rfl, hb2⟩
    go_wp2
    go_ret
    exact ⟨rfl, two_belowK hb1 hb2 hb1.size⟩
  have hn' : ¬ (1500 : Int) < (n : Int) := by omega
  by_cases hk : 40 < m
  · have hk' : (40 : Int) < (m : Int) := by omega
    go_enter Try.func7, Try.ntmps7
    go_wp2_with fail
    go_must (go_fit (awake3_any _))
    rintro e w1 ⟨rfl, hb1⟩
    go_wp2_with fail
    go_must (go_fit (awake3_any _))
    rintro e w2 ⟨rfl, hb2⟩
    go_wp2
    go_ret
    exact ⟨rfl, two_belowK hb1 hb2 hb1.size⟩
  have hk' : ¬ (40 : Int) < (m : Int) := by omega
  have HRW := Lib.hid hr
  have HIW := Lib.hid hi
  have OKF := Lib.hid (fun h => findW_ok (l := l) (xs := xs) (by omega) h)
  have PAR := Lib.hid (par_of (l := l) (by omega))
  obtain ⟨r1, r2, r3, r4, hR⟩ : ∃ r1 r2 r3 r4, findW l xs = (r1, r2, r3, r4) := ⟨_, _, _, _, rfl⟩
  have RD1 := Lib.hid (fun (X : World) (hb : Below W.heap.size W X) => show Calls Try.prog 26 #[.slice A n c, .slice A2 m cp] X fun e w' => e = .returned (.tuple #[.agg #[.int .i64 r1, .int .i64 r2], err r3 r4]) ∧ Below X.heap.size X w' from by
    have h := treefind_any (cp := cp) X (hr.below hb) (hi.below hb) hb.size hc hm (by omega) (by omega)
    rw [hR] at h
    exact h)
  have RD2 := Lib.hid (fun (X : World) (hb : Below W.heap.size W X) => show Calls Try.prog 27 #[.slice A n c, .slice A2 m cp] X fun e w' => e = .returned (.tuple #[.agg #[.int .i64 r1, .int .i64 r2], err r3 r4]) ∧ Below X.heap.size X w' from by
    have h := reffind_any (cp := cp) X (hr.below hb) (hi.below hb) hb.size hc hm (by omega) (by omega)
    rw [hR] at h
    exact h)
  have RD3 := Lib.hid (fun (X : World) (hb : Below W.heap.size W X) => treeparse_any X (hr.below hb) hb.size hc hm (by omega))
  rw [hR] at OKF
  clear hr hi hR
  go_enter Try.func7, Try.ntmps7
  go_wp2_with fail
  go_must (go_fit (awake3_any _))
  rintro e w1 ⟨rfl, hb1⟩
  have BE := Lib.hid hb1
  clear hb1
  have P1 := Lib.hid (RD1.out w1 BE.out)
  clear RD1
  go_wp2_with fail
  go_must (go_fit P1.out)
  rintro e w2 ⟨rfl, hb2⟩
  replace BE := Lib.hid (two_belowK BE.out hb2 BE.out.size)
  clear hb2
  replace BE := Lib.hid (BE.out.alloc BE.out.size (.cells #[.int .i64 r1, .int .i64 r2] 47))
  replace BE := Lib.hid (BE.out.alloc BE.out.size (.cells #[.int .i64 r3, .int .i64 r4] 29))
  have Rar : Hid (((w2.alloc (.cells #[.int .i64 r1, .int .i64 r2] 47)).alloc (.cells #[.int .i64 r3, .int .i64 r4] 29)).heap[w2.heap.size]? = some (.cells #[.int .i64 r1, .int .i64 r2] 47 (0, 0))) := Lib.hid (bk_old (bk_new rfl))
  have Rae : Hid (((w2.alloc (.cells #[.int .i64 r1, .int .i64 r2] 47)).alloc (.cells #[.int .i64 r3, .int .i64 r4] 29)).heap[w2.heap.size + 1]? = some (.cells #[.int .i64 r3, .int .i64 r4] 29 (0, 0))) := Lib.hid (bk_new (by simp))
  clear P1
  have P2 := Lib.hid (RD2.out _ BE.out)
  clear RD2
  go_wp2_with fail
  go_must (go_fit P2.out)
  rintro e w3 ⟨rfl, hb3⟩
  replace Rar := Lib.hid (stayK Rar.out hb3)
  replace Rae := Lib.hid (stayK Rae.out hb3)
  replace BE := Lib.hid (two_belowK BE.out hb3 BE.out.size)
  clear hb3
  replace Rar := Lib.hid (bk_old (o' := (.cells #[.int .i64 r1, .int .i64 r2] 47)) Rar.out)
  replace Rae := Lib.hid (bk_old (o' := (.cells #[.int .i64 r1, .int .i64 r2] 47)) Rae.out)
  replace BE := Lib.hid (BE.out.alloc BE.out.size (.cells #[.int .i64 r1, .int .i64 r2] 47))
  replace Rar := Lib.hid (bk_old (o' := (.cells #[.int .i64 r3, .int .i64 r4] 29)) Rar.out)
  replace Rae := Lib.hid (bk_old (o' := (.cells #[.int .i64 r3, .int .i64 r4] 29)) Rae.out)
  replace BE := Lib.hid (BE.out.alloc BE.out.size (.cells #[.int .i64 r3, .int .i64 r4] 29))
  have Rbr : Hid (((w3.alloc (.cells #[.int .i64 r1, .int .i64 r2] 47)).alloc (.cells #[.int .i64 r3, .int .i64 r4] 29)).heap[w3.heap.size]? = some (.cells #[.int .i64 r1, .int .i64 r2] 47 (0, 0))) := Lib.hid (bk_old (bk_new rfl))
  have Rbe : Hid (((w3.alloc (.cells #[.int .i64 r1, .int .i64 r2] 47)).alloc (.cells #[.int .i64 r3, .int .i64 r4] 29)).heap[w3.heap.size + 1]? = some (.cells #[.int .i64 r3, .int .i64 r4] 29 (0, 0))) := Lib.hid (bk_new (by simp))
  clear P2
  obtain ⟨x0, x1⟩ := cells2 Rar.out
  obtain ⟨y0, y1⟩ := cells2 Rbr.out
  obtain ⟨p0, p1⟩ := cells2 Rae.out
  obtain ⟨q0, q1⟩ := cells2 Rbe.out
  by_cases hz : r3 = 0
  · subst hz
    obtain ⟨hw, -, h4, pp, ed, hp, hq, hle, hwi⟩ := OKF.out rfl
    have h4' : r4 = 0 := h4
    subst h4'
    have hp' : r1 = (pp : Int) := hp
    have hq' : r2 = ((pp + szT ed (destT xs (withinT l 16).1) : Nat) : Int) := hq
    obtain ⟨ez, hez⟩ : ∃ ez, pp + szT ed (destT xs (withinT l 16).1) = ez := ⟨_, rfl⟩
    rw [hez] at hq' hle
    have hdz : szT ed (destT xs (withinT l 16).1) = ez - pp := by omega
    rw [hdz] at hwi
    subst hp' hq'
    clear hp hq h4
    have hfd : (findT 16 xs 0 (withinT l 16).1).2.2.1 = 0 := by
      have h := (OKF.out rfl).2.1
      rw [← h]
    clear OKF
    have RC := HRW.out.cut (k := pp) (m := ez) (cap := c) (by omega) (by omega) (by omega)
    simp only [Nat.mul_one] at RC
    obtain ⟨A9, hA9⟩ : ∃ A9, (if c = pp then A else Option.map (fun x => x.add pp) A) = A9 := ⟨_, rfl⟩
    rw [hA9] at RC
    have PARU := Lib.hid (par_of (l := (l.drop pp).take (ez - pp)) (by rw [List.length_take, List.length_drop]; omega))
    have RD4 := Lib.hid (fun (X : World) (hb : Below W.heap.size W X) => treeparse_any (c := c - pp) X (RC.below hb) hb.size (by omega) (by omega) (by omega))
    rw [hwi] at RD4 PARU
    have hwo : (withinT l 16).2.2 = 0 := by rcases PAR.out.err with ⟨_, h⟩ | ⟨h, _⟩ <;> omega
    obtain ⟨t, ht⟩ : ∃ t, withinT l 16 = (t, 0, 0) := ⟨(withinT l 16).1, Prod.ext rfl (Prod.ext hw hwo)⟩
    rw [ht] at RD3 PAR hfd RD4 PARU hez
    obtain ⟨u, hu⟩ : ∃ u, destT xs t = u := ⟨_, rfl⟩
    have HU := Lib.hid hu
    have HFD := Lib.hid hfd
    simp only [] at RD4 PARU
    rw [hu] at RD4 PARU
    have e1 : (pp : Int) ≤ (ez : Int) := by omega
    have e2 : (ez : Int) ≤ (n : Int) := by omega
    have e3 : (ez : Int) ≤ (c : Int) := by omega
    have e4 : (0 : Int) ≤ (pp : Int) := by omega
    clear hw hwi hdz hez RC hwo ht hu hfd hle
    have P3 := Lib.hid (RD4.out _ BE.out)
    clear RD4 Rar Rbr Rae Rbe
    go_wp2_with fail
    go_must (go_fit P3.out)
    rintro e w4 ⟨v4, rfl, hn4, hb4⟩
    replace hn4 := hn4.fresh
    replace BE := Lib.hid (two_belowK BE.out hb4 BE.out.size)
    clear hb4
    obtain ⟨A4, c4, K4, ck4, rfl⟩ := hn4.formV
    have Na := Lib.hid hn4
    clear hn4
    replace Na := Lib.hid (Na.out.allocS (.cells #[.int .i64 u.cls, .int .i64 u.num, .bool u.cons, .slice A4 u.con.length c4, .slice K4 u.kids.length ck4] 26))
    replace BE := Lib.hid (BE.out.alloc BE.out.size (.cells #[.int .i64 u.cls, .int .i64 u.num, .bool u.cons, .slice A4 u.con.length c4, .slice K4 u.kids.length ck4] 26))
    replace Na := Lib.hid (Na.out.allocS (.cells #[.int .i64 0, .int .i64 0] 29))
    replace BE := Lib.hid (BE.out.alloc BE.out.size (.cells #[.int .i64 0, .int .i64 0] 29))
    have Tan : Hid (((w4.alloc (.cells #[.int .i64 u.cls, .int .i64 u.num, .bool u.cons, .slice A4 u.con.length c4, .slice K4 u.kids.length ck4] 26)).alloc (.cells #[.int .i64 0, .int .i64 0] 29)).heap[w4.heap.size]? = some (.cells #[.int .i64 u.cls, .int .i64 u.num, .bool u.cons, .slice A4 u.con.length c4, .slice K4 u.kids.length ck4] 26 (0, 0))) := Lib.hid (bk_old (bk_new rfl))
    have Tae : Hid (((w4.alloc (.cells #[.int .i64 u.cls, .int .i64 u.num, .bool u.cons, .slice A4 u.con.length c4, .slice K4 u.kids.length ck4] 26)).alloc (.cells #[.int .i64 0, .int .i64 0] 29)).heap[w4.heap.size + 1]? = some (.cells #[.int .i64 0, .int .i64 0] 29 (0, 0))) := Lib.hid (bk_new (by simp))
    clear P3 hA9 x0 x1 y0 y1 p0 p1 q0 q1
    have P4 := Lib.hid (RD3.out _ BE.out)
    clear RD3
    go_wp2_with fail
    go_must (go_fit P4.out)
    rintro e w5 ⟨v5, rfl, hn5, hb5⟩
    have hz5 := hb5.size
    simp only [World.size_alloc] at hz5
    replace Tan := Lib.hid (stayK Tan.out hb5)
    replace Tae := Lib.hid (stayK Tae.out hb5)
    replace Na := Lib.hid (Na.out.past hb5)
    replace BE := Lib.hid (two_belowK BE.out hb5 BE.out.size)
    clear hb5
    have zW5 := BE.out.size
    obtain ⟨A5, c5, K5, ck5, rfl⟩ := hn5.formV
    have NU := Lib.hid (((Na.out.mono (P' := fun b => b < w5.heap.size) (fun b h => h.2)).keep (Keeps.alloc _ (.cells #[.int .i64 t.cls, .int .i64 t.num, .bool t.cons, .slice A5 t.con.length c5, .slice K5 t.kids.length ck5] 26) (fun b h => h))).keep (Keeps.alloc _ (.cells #[.int .i64 0, .int .i64 0] 29) (fun b h => by simp; omega)))
    have NT5 := Lib.hid (((hn5.mono (P' := fun b => b < w5.heap.size) (fun b h => h.2)).keep (Keeps.alloc _ (.cells #[.int .i64 t.cls, .int .i64 t.num, .bool t.cons, .slice A5 t.con.length c5, .slice K5 t.kids.length ck5] 26) (fun b h => h))).keep (Keeps.alloc _ (.cells #[.int .i64 0, .int .i64 0] 29) (fun b h => by simp; omega)))
    clear Na hn5
    replace Tan := Lib.hid (bk_old (o' := (.cells #[.int .i64 t.cls, .int .i64 t.num, .bool t.cons, .slice A5 t.con.length c5, .slice K5 t.kids.length ck5] 26)) Tan.out)
    replace Tae := Lib.hid (bk_old (o' := (.cells #[.int .i64 t.cls, .int .i64 t.num, .bool t.cons, .slice A5 t.con.length c5, .slice K5 t.kids.length ck5] 26)) Tae.out)
    replace BE := Lib.hid (BE.out.alloc BE.out.size (.cells #[.int .i64 t.cls, .int .i64 t.num, .bool t.cons, .slice A5 t.con.length c5, .slice K5 t.kids.length ck5] 26))
    replace Tan := Lib.hid (bk_old (o' := (.cells #[.int .i64 0, .int .i64 0] 29)) Tan.out)
    replace Tae := Lib.hid (bk_old (o' := (.cells #[.int .i64 0, .int .i64 0] 29)) Tae.out)
    replace BE := Lib.hid (BE.out.alloc BE.out.size (.cells #[.int .i64 0, .int .i64 0] 29))
    have Tbn : Hid (((w5.alloc (.cells #[.int .i64 t.cls, .int .i64 t.num, .bool t.cons, .slice A5 t.con.length c5, .slice K5 t.kids.length ck5] 26)).alloc (.cells #[.int .i64 0, .int .i64 0] 29)).heap[w5.heap.size]? = some (.cells #[.int .i64 t.cls, .int .i64 t.num, .bool t.cons, .slice A5 t.con.length c5, .slice K5 t.kids.length ck5] 26 (0, 0))) := Lib.hid (bk_old (bk_new rfl))
    have Tbe : Hid (((w5.alloc (.cells #[.int .i64 t.cls, .int .i64 t.num, .bool t.cons, .slice A5 t.con.length c5, .slice K5 t.kids.length ck5] 26)).alloc (.cells #[.int .i64 0, .int .i64 0] 29)).heap[w5.heap.size + 1]? = some (.cells #[.int .i64 0, .int .i64 0] 29 (0, 0))) := Lib.hid (bk_new (by simp))
    have ST := Lib.hid (show Tree.DstL W w4.heap.size w5.heap.size m xs u (.cells #[.int .i64 u.cls, .int .i64 u.num, .bool u.cons, .slice A4 u.con.length c4, .slice K4 u.kids.length ck4] 26 (0, 0)) (.agg #[.int .i64 u.cls, .int .i64 u.num, .bool u.cons, .slice A4 u.con.length c4, .slice K4 u.kids.length ck4]) (.int .i64 0) ((w5.alloc (.cells #[.int .i64 t.cls, .int .i64 t.num, .bool t.cons, .slice A5 t.con.length c5, .slice K5 t.kids.length ck5] 26)).alloc (.cells #[.int .i64 0, .int .i64 0] 29)) from ⟨0, 16, 0, t, A5, c5, K5, ck5, rfl, Nat.zero_le _, HFD.out, HU.out, Tbn.out, NT5.out, Tan.out, Tae.out, Tbe.out, NU.out, BE.out⟩)
    clear Tbn NT5 Tan Tae Tbe NU BE P4 HFD HU PAR
    go_wp2
    go_loopw [13] (fun i wr => Tree.DstL W w4.heap.size w5.heap.size m xs u (.cells #[.int .i64 u.cls, .int .i64 u.num, .bool u.cons, .slice A4 u.con.length c4, .slice K4 u.kids.length ck4] 26 (0, 0)) (.agg #[.int .i64 u.cls, .int .i64 u.num, .bool u.cons, .slice A4 u.con.length c4, .slice K4 u.kids.length ck4]) i wr) (fun i _ => m - (intOf i).toNat)
    case atStart => exact ST.out
    case round =>
      obtain ⟨k, d, a, tt, A6, c6, K6, ck6, rfl, hkm, hf0, hds, h11, hnr, h9, h10, h12, hnu, hbe⟩ := hrel
      rename World => wa
      clear ST
      have F0 := Lib.hid hf0
      have DS := Lib.hid hds
      have T11 := Lib.hid h11
      have NR := Lib.hid hnr
      have T9 := Lib.hid h9
      have T10 := Lib.hid h10
      have T12 := Lib.hid h12
      have NU := Lib.hid hnu
      have BE := Lib.hid hbe
      have z11 := Blk_lt h12
      obtain ⟨u0, u1, u2, u3, u4⟩ := cells5 h11
      obtain ⟨f0, f1, f2, f3, f4⟩ := free5 h11
      clear hf0 hds h11 hnr h9 h10 h12 hnu hbe
      by_cases hlt : k < m
      · have hkz : (k : Int) < (m : Int) := by omega
        obtain ⟨ad, hA2, had, hcs⟩ := (HIW.out.below BE.out).2 (by omega)
        subst hA2
        have ck := hcs k hlt
        have hxk : xs.getD k 0 = xs[k]'(by omega) := by rw [List.getD_eq_getElem?_getD, List.getElem?_eq_getElem (by omega)]; rfl
        have hdr : xs.drop k = xs[k]'(by omega) :: xs.drop (k + 1) := List.drop_eq_getElem_cons (by omega)
        rw [hxk] at ck
        have hadw : ad.block < wa.heap.size := by have := BE.out.size; omega
        have hf := F0.out
        have hd := DS.out
        rw [hdr] at hf hd
        obtain ⟨j, hj, hjl, hfe⟩ := findT_step hf
        rw [hfe] at hf
        rw [hj] at ck hd
        have hd2 : destT (xs.drop (k + 1)) tt.kids[j] = u := by
          rw [← hd]
          show _ = destT _ (tt.kids.getD (j : Int).toNat T.zero)
          rw [Int.toNat_natCast, List.getD_eq_getElem?_getD, List.getElem?_eq_getElem hjl]; rfl
        have hjz : (j : Int) < (tt.kids.length : Int) := by omega
        have hit : tt.kids[j]? = some tt.kids[j] := List.getElem?_eq_getElem hjl
        obtain ⟨d', rfl⟩ : ∃ d', d = d' + 1 := by
          cases d with
          | zero => have := NR.out.leaf_kids; rw [this] at hjl; simp at hjl
          | succ d => exact ⟨d, rfl⟩
        obtain ⟨A', c', K', ck', xs', hv', -, -, -, hcp, hrow⟩ := NR.out
        have hK : K6 = K' := by
          simp only [nodeV, Value.agg.injEq, Array.mk.injEq, List.cons.injEq, and_true, Value.slice.injEq, true_and] at hv'
          exact hv'.2.1
        subst hK
        obtain ⟨g, A1, c1, K2, ck2, hK, hg, x0, x1, x2, x3, x4, hnk⟩ := kid_full hcp hrow hit
        subst hK
        have hgw : g.block < wa.heap.size := by omega
        have hd1 : decide ((tt.kids.length : Int) ≤ (j : Int)) = false := decide_eq_false (by omega)
        have hd3 : decide (tt.kids.length ≤ j) = false := decide_eq_false (by omega)
        generalize tt.kids[j] = t' at *
        have RL := Lib.hid (fun (X2 : World) (h6 : X2.heap[w5.heap.size]? = some (.cells #[.int .i64 t'.cls, .int .i64 t'.num, .bool t'.cons, .slice A1 t'.con.length c1, .slice K2 t'.kids.length ck2] 26 (0, 0))) (h9 : X2.heap[w4.heap.size]? = some (.cells #[.int .i64 u.cls, .int .i64 u.num, .bool u.cons, .slice A4 u.con.length c4, .slice K4 u.kids.length ck4] 26 (0, 0))) (h10 : X2.heap[w4.heap.size + 1]? = some (.cells #[.int .i64 0, .int .i64 0] 29 (0, 0))) (h12 : X2.heap[w5.heap.size + 1]? = some (.cells #[.int .i64 0, .int .i64 0] 29 (0, 0))) (hkp : Keeps (fun b => b < w5.heap.size) wa X2) (hW2 : Below W.heap.size W X2) =>
          show Tree.DstL W w4.heap.size w5.heap.size m xs u (.cells #[.int .i64 u.cls, .int .i64 u.num, .bool u.cons, .slice A4 u.con.length c4, .slice K4 u.kids.length ck4] 26 (0, 0)) (.agg #[.int .i64 u.cls, .int .i64 u.num, .bool u.cons, .slice A4 u.con.length c4, .slice K4 u.kids.length ck4]) (.int .i64 ((k : Int) + 1)) X2 from ⟨k + 1, d', _, t', A1, c1, K2, ck2, by rw [Int.natCast_add]; rfl, by omega, hf, hd2, h6, hnk.keep hkp, h9, h10, h12, NU.out.keep hkp, hW2⟩)
        clear F0 DS NR NU hcp hrow hv' hit hfe hnk hf hd hd2 hcs hxk hdr hj hjl
        go_upto_region 12 with fail
        go_quiet (fail)
        go_upto_region 14 with fail
        go_region
        all_goals
          go_wp2
          go_roundw
          case rel =>
            clear u0 u1 u2 u3 u4 f0 f1 f2 f3 f4 x0 x1 x2 x3 x4 ck
            refine RL.out _ ?_ ?_ ?_ ?_ ?_ ?_
            · exact set5 _ _ _ _ _ T11.out
            · exact far5 T9.out (by omega) _ _ _ _ _
            · exact far5 T10.out (by omega) _ _ _ _ _
            · exact far5 T12.out (by omega) _ _ _ _ _
            · exact (by repeat' (first | (with_reducible assumption) | (with_reducible exact Keeps.refl _ _) | (with_reducible refine Keeps.drewN ?_ _) | (with_reducible refine Keeps.drew ?_) | (with_reducible refine Keeps.set ?_ ?_ _) | (intro b hb; simp only [ne_eq]; omega)))
            · have bel := BE.out
              exact (by repeat' (first | (with_reducible exact Below.refl _ _) | (with_reducible assumption) | (with_reducible refine below_drewN ?_ _) | (with_reducible refine Below.drew ?_) | (with_reducible refine Below.alloc ?_ ?_ _) | (with_reducible refine Below.setCell ?_ ?_ _) | go_size))
          case measure => simp [intOf]; omega
      · obtain rfl : m = k := by omega
        have hd := DS.out
        rw [← hxl, List.drop_length] at hd
        have hd' : u = tt := hd.symm
        subst hd'
        have P6 := Lib.hid (nodeS (L := 0) (M := 0) (NU.out.mono (fun b h => ⟨Nat.zero_le _, by omega⟩)) (NR.out.mono (fun b h => ⟨Nat.zero_le _, by omega⟩)) PARU.out.count)
        rw [eqT_self PARU.out.fits] at P6
        obtain ⟨x0, x1⟩ := cells2 T10.out
        obtain ⟨y0, y1⟩ := cells2 T12.out
        obtain ⟨v0, v1, v2, v3, v4⟩ := cells5 T9.out
        clear F0 DS NU NR hd f0 f1 f2 f3 f4
        go_wp2_with fail
        go_must (go_fit P6.out)
        rintro e w9 ⟨rfl, hb9⟩
        clear x0 x1 y0 y1 u0 u1 u2 u3 u4 v0 v1 v2 v3 v4 P6
        replace BE := Lib.hid (two_belowK BE.out hb9 BE.out.size)
        clear hb9
        go_wp2
        go_ret
        exact ⟨rfl, BE.out⟩
  · clear OKF
    go_wp2
    go_ret
    exact ⟨rfl, BE.out⟩
end Go.Proofs.Ytoomdaljdbennaa
