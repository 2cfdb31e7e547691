/- The walk of TreePrefix. Printed by gen_lawt.py. -/
import Derived.Test.YtoomdaljdbennaaKNE
import Derived.Test.YtoomdaljdbennaaQFrameN
import Derived.Test.YtoomdaljdbennaaKA
set_option linter.unusedSimpArgs false
set_option linter.unusedVariables false
namespace Go.Proofs.Ytoomdaljdbennaa
open Go.RowKit Kit Go.Sort Cur Tlv Tree

/-- of two encodings none begins with the other one -/
theorem Tree.prefix_iff {d e : Nat} {t u : T} (ft : Fits d t) (fu : Fits e u) (st : shapedT d t = true) (su : shapedT e u = true) (lt : LensOk d t) (lu : LensOk e u) {k : Nat} (hk : min (bytesT d t).length (bytesT e u).length = k) :
    Cur.eqB ((bytesT d t).take k) ((bytesT e u).take k) = eqT d t u := by
  have hd : d ≤ max d e := Nat.le_max_left _ _
  have he : e ≤ max d e := Nat.le_max_right _ _
  have ft' := fits_le ft hd
  have fu' := fits_le fu he
  have st' : shapedT (max d e) t = true := by rw [shaped_fits ft hd]; exact st
  have su' : shapedT (max d e) u = true := by rw [shaped_fits fu he]; exact su
  have lt' := lens_fits ft hd lt
  have lu' := lens_fits fu he lu
  rw [← bytes_fits ft hd, ← bytes_fits fu he] at hk ⊢
  rw [Bool.eq_iff_iff, eqT_iff ft]
  unfold Cur.eqB
  rw [decide_eq_true_eq]
  constructor
  · intro h
    rcases Nat.le_total (bytesT (max d e) t).length (bytesT (max d e) u).length with hle | hle
    · have hk' : k = (bytesT (max d e) t).length := by omega
      rw [hk', List.take_length] at h
      have h2 : bytesT (max d e) u = bytesT (max d e) t ++ (bytesT (max d e) u).drop (bytesT (max d e) t).length := by
        conv => lhs; rw [← List.take_append_drop (bytesT (max d e) t).length (bytesT (max d e) u)]
        rw [← h]
      exact (bytes_prefix ft' fu' st' su' lt' lu' h2).1.symm
    · have hk' : k = (bytesT (max d e) u).length := by omega
      rw [hk', List.take_length] at h
      have h2 : bytesT (max d e) t = bytesT (max d e) u ++ (bytesT (max d e) t).drop (bytesT (max d e) u).length := by
        conv => lhs; rw [← List.take_append_drop (bytesT (max d e) u).length (bytesT (max d e) t)]
        rw [h]
      exact (bytes_prefix fu' ft' su' st' lu' lt' h2).1
  · rintro rfl; rfl

set_option maxRecDepth 100000 in
set_option maxHeartbeats 8000000 in
theorem TreePrefix.walk (d : Nat) (t : T) (v : Value) (e : Nat) (u : T) (v' : Value) (W : World) (hn : NodeR d W (fun b => b < W.heap.size) v t) (hm : NodeR e W (fun b => b < W.heap.size) v' u) :
    Calls Try.prog 8 #[v, v'] W fun e w' => e = .returned (.bool true) ∧ Below W.heap.size W w' := by
  obtain ⟨A, c, K, ck, rfl⟩ := hn.formV
  obtain ⟨B, cb, H, ch, rfl⟩ := hm.formV
  have Na := Lib.hid (((hn.mono (P' := InB 0 W) (fun b h => ⟨Nat.zero_le _, h⟩)).allocS (.cells #[.int .i64 t.cls, .int .i64 t.num, .bool t.cons, .slice A t.con.length c, .slice K t.kids.length ck] 26)).allocS (.cells #[.int .i64 u.cls, .int .i64 u.num, .bool u.cons, .slice B u.con.length cb, .slice H u.kids.length ch] 26))
  have Nb := Lib.hid (((hm.mono (P' := InB 0 W) (fun b h => ⟨Nat.zero_le _, h⟩)).allocS (.cells #[.int .i64 t.cls, .int .i64 t.num, .bool t.cons, .slice A t.con.length c, .slice K t.kids.length ck] 26)).allocS (.cells #[.int .i64 u.cls, .int .i64 u.num, .bool u.cons, .slice B u.con.length cb, .slice H u.kids.length ch] 26))
  have Ta : Hid (((W.alloc (.cells #[.int .i64 t.cls, .int .i64 t.num, .bool t.cons, .slice A t.con.length c, .slice K t.kids.length ck] 26)).alloc (.cells #[.int .i64 u.cls, .int .i64 u.num, .bool u.cons, .slice B u.con.length cb, .slice H u.kids.length ch] 26)).heap[W.heap.size]? = some (.cells #[.int .i64 t.cls, .int .i64 t.num, .bool t.cons, .slice A t.con.length c, .slice K t.kids.length ck] 26 (0, 0))) := Lib.hid (bk_old (bk_new rfl))
  have Tb : Hid (((W.alloc (.cells #[.int .i64 t.cls, .int .i64 t.num, .bool t.cons, .slice A t.con.length c, .slice K t.kids.length ck] 26)).alloc (.cells #[.int .i64 u.cls, .int .i64 u.num, .bool u.cons, .slice B u.con.length cb, .slice H u.kids.length ch] 26)).heap[W.heap.size + 1]? = some (.cells #[.int .i64 u.cls, .int .i64 u.num, .bool u.cons, .slice B u.con.length cb, .slice H u.kids.length ch] 26 (0, 0))) := Lib.hid (bk_new (by simp))
  have BE : Hid (Below W.heap.size W ((W.alloc (.cells #[.int .i64 t.cls, .int .i64 t.num, .bool t.cons, .slice A t.con.length c, .slice K t.kids.length ck] 26)).alloc (.cells #[.int .i64 u.cls, .int .i64 u.num, .bool u.cons, .slice B u.con.length cb, .slice H u.kids.length ch] 26))) := Lib.hid (((Below.refl _ _).alloc (Nat.le_refl _) _).alloc (by simp) _)
  have HF := Lib.hid hn.fits
  have HG := Lib.hid hm.fits
  clear hn hm
  go_enter Try.func8, Try.ntmps8
  go_wp2_with fail
  go_must (go_fit (awake3_any _))
  rintro e1 w1 ⟨rfl, hb1⟩
  replace Ta := Lib.hid (stayK Ta.out hb1)
  replace Tb := Lib.hid (stayK Tb.out hb1)
  replace Na := Lib.hid (Na.out.past hb1)
  replace Nb := Lib.hid (Nb.out.past hb1)
  replace BE := Lib.hid (two_belowK BE.out hb1 BE.out.size)
  clear hb1
  obtain ⟨u0, u1, u2, u3, u4⟩ := cells5 Ta.out
  have P0 := Lib.hid (few_any d w1 _ _ t 1500 Na.out InB.lt (by omega) (by omega))
  by_cases hf : 0 ≤ leftT d t 1500
  · rw [decide_eq_true hf] at P0
    obtain ⟨hc, hby, hle⟩ := few_of hf
    clear hf
    have HL := Lib.hid hle
    clear hle
    go_wp2_with fail
    go_must (go_fit P0.out)
    rintro e2 w2 ⟨rfl, hb2⟩
    clear u0 u1 u2 u3 u4
    clear P0
    replace Ta := Lib.hid (stayK Ta.out hb2)
    replace Tb := Lib.hid (stayK Tb.out hb2)
    replace Na := Lib.hid (Na.out.past hb2)
    replace Nb := Lib.hid (Nb.out.past hb2)
    replace BE := Lib.hid (two_belowK BE.out hb2 BE.out.size)
    clear hb2
    obtain ⟨u0, u1, u2, u3, u4⟩ := cells5 Tb.out
    have P0 := Lib.hid (few_any e w2 _ _ u 1500 Nb.out InB.lt (by omega) (by omega))
    by_cases hf : 0 ≤ leftT e u 1500
    · rw [decide_eq_true hf] at P0
      obtain ⟨hc2, hby2, hle2⟩ := few_of hf
      clear hf
      have HM := Lib.hid hle2
      clear hle2
      go_wp2_with fail
      go_must (go_fit P0.out)
      rintro e2 w3 ⟨rfl, hb3⟩
      clear u0 u1 u2 u3 u4
      clear P0
      replace Ta := Lib.hid (stayK Ta.out hb3)
      replace Tb := Lib.hid (stayK Tb.out hb3)
      replace Na := Lib.hid (Na.out.past hb3)
      replace Nb := Lib.hid (Nb.out.past hb3)
      replace BE := Lib.hid (two_belowK BE.out hb3 BE.out.size)
      clear hb3
      have HE := Lib.hid (show (validT 16 t = true ∧ encC t = 0 ∧ encB d t = bytesT d t) ∨ (validT 16 t = false ∧ encC t = 8 ∧ encB d t = []) from by
        unfold encC encB
        cases validT 16 t
        · exact .inr ⟨rfl, rfl, rfl⟩
        · exact .inl ⟨rfl, rfl, rfl⟩)
      have HO := Lib.hid (show (validT 16 u = true ∧ encC u = 0 ∧ encB e u = bytesT e u) ∨ (validT 16 u = false ∧ encC u = 8 ∧ encB e u = []) from by
        unfold encC encB
        cases validT 16 u
        · exact .inr ⟨rfl, rfl, rfl⟩
        · exact .inl ⟨rfl, rfl, rfl⟩)
      have P1 := Lib.hid (fun (X : World) (v : Value) (h : NodeR d X (InB 0 X) v t) => treeencode_any d X _ _ t h InB.lt (by omega) HL.out (by omega))
      have P2 := Lib.hid (fun (X : World) (v : Value) (h : NodeR e X (InB 0 X) v u) => treeencode_any e X _ _ u h InB.lt (by omega) HM.out (by omega))
      have V1 := Lib.hid (fun (X : World) (v : Value) (h : NodeR d X (InB 0 X) v t) => refvalid_any d X _ _ t h InB.lt (by omega))
      have V2 := Lib.hid (fun (X : World) (v : Value) (h : NodeR e X (InB 0 X) v u) => refvalid_any e X _ _ u h InB.lt (by omega))
      generalize hL : encB d t = L at *
      generalize hM : encB e u = M at *
      generalize encC t = ec at *
      generalize encC u = ed at *
      have P1' := Lib.hid (P1.out _ _ Na.out)
      clear P1 hL hM
      obtain ⟨u0, u1, u2, u3, u4⟩ := cells5 Ta.out
      go_wp2_with fail
      go_must (go_fit P1'.out)
      rintro e2 w4 ⟨A1, c1, rfl, ho1, hb4⟩
      clear u0 u1 u2 u3 u4
      clear P1'
      replace Ta := Lib.hid (stayK Ta.out hb4)
      replace Tb := Lib.hid (stayK Tb.out hb4)
      replace Na := Lib.hid (Na.out.past hb4)
      replace Nb := Lib.hid (Nb.out.past hb4)
      replace BE := Lib.hid (two_belowK BE.out hb4 BE.out.size)
      clear hb4
      have hcap := ho1.cap
      have R1 := Lib.hid ho1.rd
      clear ho1
      have P2' := Lib.hid (P2.out _ _ Nb.out)
      clear P2
      obtain ⟨u0, u1, u2, u3, u4⟩ := cells5 Tb.out
      go_wp2_with fail
      go_must (go_fit P2'.out)
      rintro e2 w5 ⟨A2, c2, rfl, ho2, hb5⟩
      clear u0 u1 u2 u3 u4
      clear P2'
      replace Ta := Lib.hid (stayK Ta.out hb5)
      replace Tb := Lib.hid (stayK Tb.out hb5)
      replace Na := Lib.hid (Na.out.past hb5)
      replace Nb := Lib.hid (Nb.out.past hb5)
      replace R1 := Lib.hid (R1.out.past hb5)
      replace BE := Lib.hid (two_belowK BE.out hb5 BE.out.size)
      clear hb5
      have hcap2 := ho2.cap
      have R2 := Lib.hid ho2.rd
      clear ho2
      have HVT := Lib.hid (fun h : validT 16 t = true => show shapedT d t = true from by rw [valid_eq 16 d t HF.out, Bool.and_eq_true] at h; exact h.1)
      have HVU := Lib.hid (fun h : validT 16 u = true => show shapedT e u = true from by rw [valid_eq 16 e u HG.out, Bool.and_eq_true] at h; exact h.1)
      rcases HE.out with ⟨hv, he, hl⟩ | ⟨hv, he, hl⟩ <;> rcases HO.out with ⟨hv2, he2, hl2⟩ | ⟨hv2, he2, hl2⟩
      · subst he he2
        obtain ⟨mn, hmn⟩ : ∃ m, min L.length M.length = m := ⟨_, rfl⟩
        have hma : mn ≤ L.length := by omega
        have hmb : mn ≤ M.length := by omega
        have hmi : (if M.length < L.length then (M.length : Int) else (L.length : Int)) = (mn : Int) := by split <;> omega
        have EQ : Cur.eqB (L.take mn) (M.take mn) = eqT d t u := by
          rw [hl, hl2]
          rw [hl, hl2] at hmn
          exact Tree.prefix_iff HF.out HG.out (HVT.out hv) (HVU.out hv2) HL.out HM.out hmn
        have Q1 := Lib.hid (R1.out.take hma)
        have Q2 := Lib.hid (R2.out.take hmb)
        clear hmn V1 V2 HE HO HVT HVU hl hl2
        go_upto_region 8 with fail
        clear hmi
        have v1 : (mn : Int) ≤ (c1 : Int) := by omega
        have v2 : (mn : Int) ≤ (c2 : Int) := by omega
        have v3 : (0 : Int) ≤ (mn : Int) := by omega
        have B1 := Lib.hid (fun (cA cB dd : Nat) (os : Array Obj) => Cur.bytes_any A1 A2 mn cA mn cB (L.take mn) (M.take mn) (grow (redrawn w5 dd) os) (Q1.out.regrown dd os) (Q2.out.regrown dd os))
        have B2 := Lib.hid (fun (dd : Nat) (os : Array Obj) => nodeS (X := (grow (redrawn w5 dd) os)) (Na.out.past (below_regrown w5 dd os)) (Nb.out.past (below_regrown w5 dd os)) (by omega))
        rw [EQ] at B1
        generalize eqT d t u = eb at *
        clear EQ
        obtain ⟨u0, u1, u2, u3, u4⟩ := cells5 Ta.out
        obtain ⟨x0, x1, x2, x3, x4⟩ := cells5 Tb.out
        have p0 := cell_regrown u0
        have q0 := cell_regrown x0
        have p1 := cell_regrown u1
        have q1 := cell_regrown x1
        have p2 := cell_regrown u2
        have q2 := cell_regrown x2
        have p3 := cell_regrown u3
        have q3 := cell_regrown x3
        have p4 := cell_regrown u4
        have q4 := cell_regrown x4
        refine wp_region_quiet_below (by kernel_rfl) (by kernel_rfl) ?_; (repeat (go_big_quiet_step (first | (go_at_call 18; exact regrown_same (B1.out _ _ _ _)) | (go_at_call 13; exact Calls.regrown_of (B2.out _ _))))); refine wpQuiet_nil ?_; intro wq hq; replace hq := Kit.of_regrown hq
        clear B1 B2
        clear u0 u1 u2 u3 u4 x0 x1 x2 x3 x4 p0 p1 p2 p3 p4 q0 q1 q2 q3 q4
        replace Ta := Lib.hid (stayK Ta.out hq)
        replace Tb := Lib.hid (stayK Tb.out hq)
        replace Na := Lib.hid (Na.out.past hq)
        replace Nb := Lib.hid (Nb.out.past hq)
        replace R1 := Lib.hid (R1.out.past hq)
        replace R2 := Lib.hid (R2.out.past hq)
        replace BE := Lib.hid (two_belowK BE.out hq BE.out.size)
        clear hq
        go_wp2
        go_ret
        exact ⟨by first | rfl | exact ret_bool (by simp), BE.out⟩
      · subst he he2
        clear HVT HVU hl hl2 HE HO
        have P3 := Lib.hid (V1.out _ _ Na.out)
        rw [hv] at P3
        obtain ⟨u0, u1, u2, u3, u4⟩ := cells5 Ta.out
        go_wp2_with fail
        go_must (go_fit P3.out)
        rintro e2 w6 ⟨rfl, hb6⟩
        clear u0 u1 u2 u3 u4
        clear P3
        replace Ta := Lib.hid (stayK Ta.out hb6)
        replace Tb := Lib.hid (stayK Tb.out hb6)
        replace Na := Lib.hid (Na.out.past hb6)
        replace Nb := Lib.hid (Nb.out.past hb6)
        replace BE := Lib.hid (two_belowK BE.out hb6 BE.out.size)
        clear hb6
        have P4 := Lib.hid (V2.out _ _ Nb.out)
        rw [hv2] at P4
        obtain ⟨u0, u1, u2, u3, u4⟩ := cells5 Tb.out
        go_wp2_with fail
        go_must (go_fit P4.out)
        rintro e2 w7 ⟨rfl, hb7⟩
        clear u0 u1 u2 u3 u4
        clear P4
        replace Ta := Lib.hid (stayK Ta.out hb7)
        replace Tb := Lib.hid (stayK Tb.out hb7)
        replace Na := Lib.hid (Na.out.past hb7)
        replace Nb := Lib.hid (Nb.out.past hb7)
        replace BE := Lib.hid (two_belowK BE.out hb7 BE.out.size)
        clear hb7
        go_wp2
        go_ret
        exact ⟨rfl, BE.out⟩
      · subst he he2
        clear HVT HVU hl hl2 HE HO
        have P3 := Lib.hid (V1.out _ _ Na.out)
        rw [hv] at P3
        obtain ⟨u0, u1, u2, u3, u4⟩ := cells5 Ta.out
        go_wp2_with fail
        go_must (go_fit P3.out)
        rintro e2 w6 ⟨rfl, hb6⟩
        clear u0 u1 u2 u3 u4
        clear P3
        replace Ta := Lib.hid (stayK Ta.out hb6)
        replace Tb := Lib.hid (stayK Tb.out hb6)
        replace Na := Lib.hid (Na.out.past hb6)
        replace Nb := Lib.hid (Nb.out.past hb6)
        replace BE := Lib.hid (two_belowK BE.out hb6 BE.out.size)
        clear hb6
        have P4 := Lib.hid (V2.out _ _ Nb.out)
        rw [hv2] at P4
        obtain ⟨u0, u1, u2, u3, u4⟩ := cells5 Tb.out
        go_wp2_with fail
        go_must (go_fit P4.out)
        rintro e2 w7 ⟨rfl, hb7⟩
        clear u0 u1 u2 u3 u4
        clear P4
        replace Ta := Lib.hid (stayK Ta.out hb7)
        replace Tb := Lib.hid (stayK Tb.out hb7)
        replace Na := Lib.hid (Na.out.past hb7)
        replace Nb := Lib.hid (Nb.out.past hb7)
        replace BE := Lib.hid (two_belowK BE.out hb7 BE.out.size)
        clear hb7
        go_wp2
        go_ret
        exact ⟨rfl, BE.out⟩
      · subst he he2
        clear HVT HVU hl hl2 HE HO
        have P3 := Lib.hid (V1.out _ _ Na.out)
        rw [hv] at P3
        obtain ⟨u0, u1, u2, u3, u4⟩ := cells5 Ta.out
        go_wp2_with fail
        go_must (go_fit P3.out)
        rintro e2 w6 ⟨rfl, hb6⟩
        clear u0 u1 u2 u3 u4
        clear P3
        replace Ta := Lib.hid (stayK Ta.out hb6)
        replace Tb := Lib.hid (stayK Tb.out hb6)
        replace Na := Lib.hid (Na.out.past hb6)
        replace Nb := Lib.hid (Nb.out.past hb6)
        replace BE := Lib.hid (two_belowK BE.out hb6 BE.out.size)
        clear hb6
        have P4 := Lib.hid (V2.out _ _ Nb.out)
        rw [hv2] at P4
        obtain ⟨u0, u1, u2, u3, u4⟩ := cells5 Tb.out
        go_wp2_with fail
        go_must (go_fit P4.out)
        rintro e2 w7 ⟨rfl, hb7⟩
        clear u0 u1 u2 u3 u4
        clear P4
        replace Ta := Lib.hid (stayK Ta.out hb7)
        replace Tb := Lib.hid (stayK Tb.out hb7)
        replace Na := Lib.hid (Na.out.past hb7)
        replace Nb := Lib.hid (Nb.out.past hb7)
        replace BE := Lib.hid (two_belowK BE.out hb7 BE.out.size)
        clear hb7
        go_wp2
        go_ret
        exact ⟨rfl, BE.out⟩
    · rw [decide_eq_false hf] at P0
      clear hf HF
      go_wp2_with fail
      go_must (go_fit P0.out)
      rintro e2 w3 ⟨rfl, hb3⟩
      clear u0 u1 u2 u3 u4
      clear P0
      replace Ta := Lib.hid (stayK Ta.out hb3)
      replace Tb := Lib.hid (stayK Tb.out hb3)
      replace Na := Lib.hid (Na.out.past hb3)
      replace Nb := Lib.hid (Nb.out.past hb3)
      replace BE := Lib.hid (two_belowK BE.out hb3 BE.out.size)
      clear hb3
      go_wp2_with fail
      go_must (go_fit (awake3_any _))
      rintro e3 w4 ⟨rfl, hb4⟩
      replace Ta := Lib.hid (stayK Ta.out hb4)
      replace Tb := Lib.hid (stayK Tb.out hb4)
      replace Na := Lib.hid (Na.out.past hb4)
      replace Nb := Lib.hid (Nb.out.past hb4)
      replace BE := Lib.hid (two_belowK BE.out hb4 BE.out.size)
      clear hb4
      go_wp2
      go_ret
      exact ⟨rfl, BE.out⟩
  · rw [decide_eq_false hf] at P0
    clear hf HF
    go_wp2_with fail
    go_must (go_fit P0.out)
    rintro e2 w2 ⟨rfl, hb2⟩
    clear u0 u1 u2 u3 u4
    clear P0
    replace Ta := Lib.hid (stayK Ta.out hb2)
    replace Tb := Lib.hid (stayK Tb.out hb2)
    replace Na := Lib.hid (Na.out.past hb2)
    replace Nb := Lib.hid (Nb.out.past hb2)
    replace BE := Lib.hid (two_belowK BE.out hb2 BE.out.size)
    clear hb2
    go_wp2_with fail
    go_must (go_fit (awake3_any _))
    rintro e3 w3 ⟨rfl, hb3⟩
    replace Ta := Lib.hid (stayK Ta.out hb3)
    replace Tb := Lib.hid (stayK Tb.out hb3)
    replace Na := Lib.hid (Na.out.past hb3)
    replace Nb := Lib.hid (Nb.out.past hb3)
    replace BE := Lib.hid (two_belowK BE.out hb3 BE.out.size)
    clear hb3
    go_wp2
    go_ret
    exact ⟨rfl, BE.out⟩
end Go.Proofs.Ytoomdaljdbennaa
