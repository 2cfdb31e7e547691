/- Walks: Find of the reference. -/
import Derived.BigQuiet
import Derived.Test.YtoomdaljdbennaaKND
import Derived.Test.YtoomdaljdbennaaKNE
set_option linter.unusedSimpArgs false
set_option linter.unusedVariables false
namespace Go.Proofs.Ytoomdaljdbennaa.Tree
open Go.RowKit Kit Tlv

theorem szK_take {d : Nat} {ks : List T} {j : Nat} {k : T} (h : ks[j]? = some k) : szK d (ks.take (j + 1)) = szK d (ks.take j) + szT d k := by
  rw [List.take_add_one, h]
  exact szK_snoc _ _ _
theorem szK_le (d : Nat) (ks : List T) (j : Nat) : szK d (ks.take j) ≤ szK d ks := by
  unfold szK
  exact flat_len (f := bytesT d) (ks := ks) j
/-- sizes inside a tree that has kids -/
theorem find_sizes {d : Nat} {t : T} (h : EncOk (d + 1) t) (hk : 0 < t.kids.length) : hdT d t + szK d t.kids = szT (d + 1) t ∧ szT (d + 1) t ≤ 100000000 := by
  obtain ⟨h1, h2, h3, h4⟩ := h.node (fun h => by omega)
  obtain ⟨-, o2, o3⟩ := nodeOk_iff.1 h1
  have hcons : t.cons = true := by
    cases hc : t.cons
    · have := o3 hc; rw [this] at hk; simp at hk
    · rfl
  have hcon := o2 hcons
  have e := bytes_eq (d + 1) t (fun h => by omega)
  have el := enc_len (b := t.cons) h2
  rw [← e] at el
  have hsz : szT (d + 1) t = (bytesT (d + 1) t).length := rfl
  have hsk : szK d t.kids = (t.kids.flatMap (bytesT d)).length := rfl
  rw [List.length_append] at el
  simp only [Nat.add_sub_cancel] at el
  refine ⟨?_, h.2.2.2⟩
  unfold hdT
  rw [hcon, List.length_nil]
  omega

/-- where the loop of the reference's Find stands -/
def FrnL (w : World) (b6 B : Nat) (A2 : Option Addr) (m : Nat) (xs : List Int) (R : Int × Int × Int × Int) (p i : Value) (wr : World) : Prop :=
  ∃ (k d a : Nat) (t : T) (A6 : Option Addr) (c6 : Nat) (K6 : Option Addr) (ck6 : Nat), p = .int .i64 (a : Int) ∧ i = .int .i64 (k : Int) ∧ k ≤ m ∧ findT d (xs.drop k) a t = R ∧ EncOk d t ∧ a + szT d t ≤ 1000000 ∧
    wr.heap[b6]? = some (.cells #[.int .i64 t.cls, .int .i64 t.num, .bool t.cons, .slice A6 t.con.length c6, .slice K6 t.kids.length ck6] 26 (0, 0)) ∧ NodeR d wr (fun b => w.heap.size + 2 ≤ b ∧ b < b6) (.agg #[.int .i64 t.cls, .int .i64 t.num, .bool t.cons, .slice A6 t.con.length c6, .slice K6 t.kids.length ck6]) t ∧
    wr.heap[w.heap.size]? = some (.cells #[.int .i64 0, .int .i64 0] 47 (0, 0)) ∧ wr.heap[w.heap.size + 1]? = some (.cells #[.int .i64 0, .int .i64 0] 29 (0, 0)) ∧ RdI wr B A2 m xs ∧ Below w.heap.size w wr
/-- where its second loop stands: the kids' octets -/
def FrcL (d : Nat) (ks : List T) (w0 : World) (c i : Value) (X : World) : Prop :=
  ∃ j : Nat, c = .int .i64 ((szK d (ks.take j) : Nat) : Int) ∧ i = .int .i64 (j : Int) ∧ j ≤ ks.length ∧ Below w0.heap.size w0 X
/-- where its third loop stands: the octets of the kids ahead -/
def FrdL (d : Nat) (ks : List T) (b0 j : Nat) (w0 : World) (p i : Value) (X : World) : Prop :=
  ∃ j2 : Nat, p = .int .i64 ((b0 + szK d (ks.take j2) : Nat) : Int) ∧ i = .int .i64 (j2 : Int) ∧ j2 ≤ j ∧ Below w0.heap.size w0 X

set_option maxRecDepth 100000 in
set_option maxHeartbeats 8000000 in
theorem reffind_any {A : Option Addr} {n c B : Nat} {l : List UInt8} {A2 : Option Addr} {m cp : Nat} {xs : List Int} (w : World) (hr : Rd w B A n l) (hi : RdI w B A2 m xs) (hB : B ≤ w.heap.size) (hc : n ≤ c) (hm : c ≤ maxLen) (hn : n ≤ 1000000) (hmm : m ≤ 1000000) :
    Calls Try.prog 27 #[.slice A n c, .slice A2 m cp] w (FinP w (findW l xs)) := by
  have hl := hr.len
  have HR := Lib.hid hr
  have HI := Lib.hid hi
  have hxl := hi.1
  have RD := Lib.hid (fun (w' : World) (h : Rd w' B A n l) (hB : B ≤ w'.heap.size) => refparse_any w' h hB hc hm hn)
  have PSD := Lib.hid (fun h => (parse_ok (l := l) (by omega) h).1)
  obtain ⟨R, hR⟩ : ∃ R, findW l xs = R := ⟨_, rfl⟩
  rw [hR]
  unfold findW at hR
  clear hr hi
  generalize withinT l 16 = q at *
  obtain ⟨qt, qc, qo⟩ := q
  simp only [] at hR PSD
  have HRR := Lib.hid hR
  clear hR
  go_enter Try.func27, Try.ntmps27
  go_upto_region 2 with (first | (go_at_call 12; go_must (refine (RD.out _ ((HR.out.alloc hB _).alloc (by simp; omega) _) (by simp; omega)).mono ?_); rintro e w1 ⟨v, rfl, hnv, hb⟩; obtain ⟨A6, c6, K6, ck6, hv⟩ := hnv.form; replace hv := hv.1; simp only [nodeV] at hv; subst hv))
  obtain ⟨t2, t5, bel⟩ := box2 hb
  have hs := hb.size
  simp only [World.size_alloc] at hs
  replace t2 := bk_old (o' := (.cells #[.int .i64 qc, .int .i64 qo] 29)) (bk_old (o' := (.cells #[.int .i64 qt.cls, .int .i64 qt.num, .bool qt.cons, .slice A6 qt.con.length c6, .slice K6 qt.kids.length ck6] 26)) t2)
  replace t5 := bk_old (o' := (.cells #[.int .i64 qc, .int .i64 qo] 29)) (bk_old (o' := (.cells #[.int .i64 qt.cls, .int .i64 qt.num, .bool qt.cons, .slice A6 qt.con.length c6, .slice K6 qt.kids.length ck6] 26)) t5)
  have t6 : ((w1.alloc (.cells #[.int .i64 qt.cls, .int .i64 qt.num, .bool qt.cons, .slice A6 qt.con.length c6, .slice K6 qt.kids.length ck6] 26)).alloc (.cells #[.int .i64 qc, .int .i64 qo] 29)).heap[w1.heap.size]? = _ := bk_old (bk_new rfl)
  have t7 : ((w1.alloc (.cells #[.int .i64 qt.cls, .int .i64 qt.num, .bool qt.cons, .slice A6 qt.con.length c6, .slice K6 qt.kids.length ck6] 26)).alloc (.cells #[.int .i64 qc, .int .i64 qo] 29)).heap[w1.heap.size + 1]? = _ := bk_new (by simp)
  replace bel := (bel.alloc bel.size (.cells #[.int .i64 qt.cls, .int .i64 qt.num, .bool qt.cons, .slice A6 qt.con.length c6, .slice K6 qt.kids.length ck6] 26)).alloc (by simp; have := bel.size; omega) (.cells #[.int .i64 qc, .int .i64 qo] 29)
  have k1 : Keeps (fun b => b < w1.heap.size) w1 ((w1.alloc (.cells #[.int .i64 qt.cls, .int .i64 qt.num, .bool qt.cons, .slice A6 qt.con.length c6, .slice K6 qt.kids.length ck6] 26)).alloc (.cells #[.int .i64 qc, .int .i64 qo] 29)) := Keeps.trans (Keeps.alloc _ _ (fun b h => h)) (Keeps.alloc _ _ (fun b h => by simp; omega))
  have hz : ((w1.alloc (.cells #[.int .i64 qt.cls, .int .i64 qt.num, .bool qt.cons, .slice A6 qt.con.length c6, .slice K6 qt.kids.length ck6] 26)).alloc (.cells #[.int .i64 qc, .int .i64 qo] 29)).heap.size = w1.heap.size + 2 := by simp
  have nv : NodeR 16 ((w1.alloc (.cells #[.int .i64 qt.cls, .int .i64 qt.num, .bool qt.cons, .slice A6 qt.con.length c6, .slice K6 qt.kids.length ck6] 26)).alloc (.cells #[.int .i64 qc, .int .i64 qo] 29)) (fun b => w.heap.size + 2 ≤ b ∧ b < w1.heap.size) _ qt := (hnv.keep (k1.imp (fun b h => h.2))).mono (fun b h => ⟨by have := h.1; simp at this; omega, h.2⟩)
  have hi5 := HI.out.below (bel.mono hB)
  clear hb hnv k1 RD HI
  generalize ((w1.alloc (.cells #[.int .i64 qt.cls, .int .i64 qt.num, .bool qt.cons, .slice A6 qt.con.length c6, .slice K6 qt.kids.length ck6] 26)).alloc (.cells #[.int .i64 qc, .int .i64 qo] 29)) = w2 at *
  have T2 := Lib.hid t2
  have T5 := Lib.hid t5
  have NV := Lib.hid nv
  have HI := Lib.hid hi5
  have n1 : ¬ w1.heap.size = w.heap.size := by omega
  have n2 : ¬ w1.heap.size = w.heap.size + 1 := by omega
  have n3 : ¬ w.heap.size = w1.heap.size := by omega
  have n4 : ¬ w.heap.size + 1 = w1.heap.size := by omega
  have m1 : ¬ w1.heap.size + 1 = w.heap.size := by omega
  have m2 : ¬ w1.heap.size + 1 = w.heap.size + 1 := by omega
  have m3 : ¬ w.heap.size = w1.heap.size + 1 := by omega
  have m4 : ¬ w.heap.size + 1 = w1.heap.size + 1 := by omega
  generalize hg7 : w1.heap.size + 1 = b7 at *
  generalize hg6 : w1.heap.size = b6 at *
  have n67 : ¬ b6 = b7 := by omega
  have n76 : ¬ b7 = b6 := by omega
  have w2lo : w.heap.size + 2 ≤ w2.heap.size := by omega
  have hb6 : w.heap.size + 2 ≤ b6 := by omega
  have hb6s : b6 < w2.heap.size := by omega
  clear hg6 hg7 hz w1
  have T6 := Lib.hid t6
  obtain ⟨s0, s1⟩ := cells2 t5
  obtain ⟨g0', g1', -, -, -⟩ := free5 t5
  obtain ⟨p0, p1⟩ := cells2 t2
  obtain ⟨h0', h1', -, -, -⟩ := free5 t2
  obtain ⟨v0, v1⟩ := cells2 t7
  clear t2 t5 t6 t7 nv hi5
  by_cases hz : qc = 0
  · have PS := PSD.out hz
    subst hz
    have BE := Lib.hid bel
    have ST : FrnL w b6 B A2 m xs R (.int .i64 0) (.int .i64 0) w2 := by
      refine ⟨0, 16, 0, qt, A6, c6, K6, ck6, rfl, rfl, Nat.zero_le _, ?_, PS.enc (by omega), ?_, T6.out, NV.out, T2.out, T5.out, HI.out, BE.out⟩
      · have h := HRR.out
        rw [if_pos rfl] at h
        rw [List.drop_zero]
        exact h
      · have : szT 16 qt = l.length := by unfold szT; rw [PS.bytes]
        omega
    have START := Lib.hid ST
    clear ST NV HRR T6 s0 s1 g0' g1' p0 p1 h0' h1' PS PSD T2 T5 HI BE bel
    go_wp2
    go_loopw [8, 9] (fun p i wr => FrnL w b6 B A2 m xs R p i wr) (fun _ i _ => m - (intOf i).toNat)
    case atStart => exact START.out
    case round =>
      obtain ⟨k, d, a, t, A6, c6, K6, ck6, rfl, rfl, hk, hfin, hok, haz, h6, hnr, h2, h5, hri, hb⟩ := hrel
      rename World => w5
      have FN := Lib.hid hfin
      have OK := Lib.hid hok
      have T6 := Lib.hid h6
      have T2 := Lib.hid h2
      have T5 := Lib.hid h5
      have RI := Lib.hid hri
      have HN := Lib.hid hnr
      have BE := Lib.hid hb
      have hb6r : b6 < w5.heap.size := Blk_lt h6
      clear START v0 v1 hfin hok hri hnr
      obtain ⟨u0, u1, u2, u3, u4⟩ := cells5 h6
      obtain ⟨f0, f1, f2, f3, f4⟩ := free5 h6
      obtain ⟨s0, s1⟩ := cells2 h5
      obtain ⟨g0', g1', -, -, -⟩ := free5 h5
      obtain ⟨p0, p1⟩ := cells2 h2
      obtain ⟨h0', h1', -, -, -⟩ := free5 h2
      clear h2 h5 h6 hb
      by_cases hlt : k < m
      · have hkz : (k : Int) < (m : Int) := by omega
        obtain ⟨ad, hA2, had, hcs⟩ := RI.out.2 (by omega)
        subst hA2
        have ck := hcs k hlt
        have hxk : xs.getD k 0 = xs[k]'(by omega) := by rw [List.getD_eq_getElem?_getD, List.getElem?_eq_getElem (by omega)]; rfl
        have DR := Lib.hid (show xs.drop k = xs[k]'(by omega) :: xs.drop (k + 1) from List.drop_eq_getElem_cons (by omega))
        rw [hxk] at ck
        obtain ⟨i, hi⟩ : ∃ i, xs[k]'(by omega) = i := ⟨_, rfl⟩
        rw [hi] at ck
        have HIX := Lib.hid hi
        clear hcs hxk hi
        have hadw : ad.block < w5.heap.size := by omega
        by_cases hneg : i < 0 ∨ (t.kids.length : Int) ≤ i
        · have E := Lib.hid (show (0, 0, 10, (a : Int)) = R from by
            have h := FN.out
            rw [DR.out, HIX.out, findT_off hneg] at h
            exact h)
          have E1 := E.out
          subst E1
          clear FN DR HIX E HN OK haz
          by_cases hi0 : i < 0
          · clear hneg
            have hd0 : decide (i < 0) = true := decide_eq_true hi0
            go_upto_region 8 with fail
            go_quiet (fail)
            go_wp2
            clear u0 u1 u2 u3 u4 f0 f1 f2 f3 f4 s0 s1 g0' g1' p0 p1 h0' h1' ck
            have T2 : Hid ((w5.drewN nq).heap[w.heap.size]? = _) := Lib.hid T2.out
            have T5 : Hid ((w5.drewN nq).heap[w.heap.size + 1]? = _) := Lib.hid T5.out
            have tc := cells2 (far2 (c := w.heap.size + 1) (set2 (.int .i64 0) (.int .i64 0) T2.out) (by omega) (.int .i64 10) (.int .i64 (a : Int)))
            have td := cells2 (set2 (.int .i64 10) (.int .i64 (a : Int)) (far2 (c := w.heap.size) T5.out (by omega) (.int .i64 0) (.int .i64 0)))
            refine bodyPost_ret (v := .tuple #[.agg #[.int .i64 0, .int .i64 0], err 10 (a : Int)]) (by simp [results, Try.results27, go_sem, *]) rfl ?_
            have bel := BE.out
            exact ⟨rfl, (by repeat' (first | (with_reducible exact Below.refl _ _) | (with_reducible assumption) | (with_reducible refine below_drewN ?_ _) | (with_reducible refine Below.drew ?_) | (with_reducible refine Below.alloc ?_ ?_ _) | (with_reducible refine Below.setCell ?_ ?_ _) | go_size))⟩
          · have hge : (t.kids.length : Int) ≤ i := by omega
            have hd0 : decide (i < 0) = false := decide_eq_false hi0
            have hd1 : decide ((t.kids.length : Int) ≤ i) = true := decide_eq_true hge
            clear hneg
            go_upto_region 8 with fail
            go_quiet (fail)
            go_wp2
            clear u0 u1 u2 u3 u4 f0 f1 f2 f3 f4 s0 s1 g0' g1' p0 p1 h0' h1' ck
            have T2 : Hid ((w5.drewN nq).heap[w.heap.size]? = _) := Lib.hid T2.out
            have T5 : Hid ((w5.drewN nq).heap[w.heap.size + 1]? = _) := Lib.hid T5.out
            have tc := cells2 (far2 (c := w.heap.size + 1) (set2 (.int .i64 0) (.int .i64 0) T2.out) (by omega) (.int .i64 10) (.int .i64 (a : Int)))
            have td := cells2 (set2 (.int .i64 10) (.int .i64 (a : Int)) (far2 (c := w.heap.size) T5.out (by omega) (.int .i64 0) (.int .i64 0)))
            refine bodyPost_ret (v := .tuple #[.agg #[.int .i64 0, .int .i64 0], err 10 (a : Int)]) (by simp [results, Try.results27, go_sem, *]) rfl ?_
            have bel := BE.out
            exact ⟨rfl, (by repeat' (first | (with_reducible exact Below.refl _ _) | (with_reducible assumption) | (with_reducible refine below_drewN ?_ _) | (with_reducible refine Below.drew ?_) | (with_reducible refine Below.alloc ?_ ?_ _) | (with_reducible refine Below.setCell ?_ ?_ _) | go_size))⟩
        · obtain ⟨j, rfl⟩ := Int.eq_ofNat_of_zero_le (show 0 ≤ i by omega)
          have hjl : j < t.kids.length := by omega
          have hjz : (j : Int) < (t.kids.length : Int) := by omega
          have hit : t.kids[j]? = some t.kids[j] := List.getElem?_eq_getElem hjl
          obtain ⟨d', rfl⟩ : ∃ d', d = d' + 1 := by
            cases d with
            | zero => have := HN.out.leaf_kids; rw [this] at hjl; simp at hjl
            | succ d => exact ⟨d, rfl⟩
          have NEXT := Lib.hid (show findT d' (xs.drop (k + 1)) (a + hdT d' t + szK d' (t.kids.take j)) t.kids[j] = R from by
            have h := FN.out
            rw [DR.out, HIX.out, findT_in hit, sumS_szK] at h
            exact h)
          obtain ⟨fs1, fs2⟩ := find_sizes OK.out (by omega)
          have hkl := (OK.out.node (fun h => by omega)).2.2.2
          obtain ⟨A', c', K', ck', xs', hv', -, -, -, hcp, hrow⟩ := HN.out
          have hK : K6 = K' := by
            simp only [nodeV, Value.agg.injEq, Array.mk.injEq, List.cons.injEq, and_true, Value.slice.injEq, true_and] at hv'
            exact hv'.2.1
          subst hK
          have hPw : ∀ b, (w.heap.size + 2 ≤ b ∧ b < b6) → b < w5.heap.size := fun b h => by omega
          have KID := Lib.hid (fun (X : World) (hX : Below w5.heap.size w5 X) (i : Nat) (k : T) (hi : t.kids[i]? = some k) => kid_full (hcp.keep (Keeps.below hX hPw)) (hrow.imp (fun _ _ h => h.keep (Keeps.below hX hPw))) hi)
          have BYT := Lib.hid (fun (X : World) (hX : Below w5.heap.size w5 X) (v : Value) (k : T) (hm : k ∈ t.kids) (h : NodeR d' X (fun b => w.heap.size + 2 ≤ b ∧ b < b6) v k) => refbytes_any d' X (fun b => w.heap.size + 2 ≤ b ∧ b < b6) v k h (fun b h => Nat.lt_of_lt_of_le (hPw b h) hX.size) (OK.out.kid hm))
          have BYN := Lib.hid (fun (X : World) (hX : Below w5.heap.size w5 X) => refbytes_any (d' + 1) X (fun b => w.heap.size + 2 ≤ b ∧ b < b6) _ t (HN.out.keep (Keeps.below hX hPw)) (fun b h => Nat.lt_of_lt_of_le (hPw b h) hX.size) OK.out)
          have SKL := Lib.hid (fun j => szK_le d' t.kids j)
          have hskl := SKL.out j
          have hszk := szK_take (d := d') hit
          have hszk2 := SKL.out (j + 1)
          have hd0 : decide ((j : Int) < 0) = false := decide_eq_false (by omega)
          have hd1 : decide ((t.kids.length : Int) ≤ (j : Int)) = false := decide_eq_false (by omega)
          have hd2 : decide (t.kids.length ≤ j) = false := decide_eq_false (by omega)
          clear FN DR HIX hneg hcp hrow hv' s0 s1 g0' g1' p0 p1 h0' h1' f0 f1 f2 f3 f4
          go_upto_region 8 with fail
          go_quiet (fail)
          have q0 : Below w5.heap.size w5 (w5.drewN nq) := below_drewN (Below.refl _ _) _
          have Q0 := Lib.hid q0
          clear q0
          go_wp2
          go_loopw [10, 11] (fun c i X => FrcL d' t.kids w5 c i X) (fun _ i _ => t.kids.length - (intOf i).toNat)
          case atStart => exact ⟨0, rfl, rfl, Nat.zero_le _, Q0.out⟩
          case round =>
            obtain ⟨j2, rfl, rfl, hj2, hbX⟩ := hrel
            have Q1 := Lib.hid hbX
            have zX := hbX.size
            clear hbX Q0
            have T6' := stayK T6.out Q1.out
            obtain ⟨u0, u1, u2, u3, u4⟩ := cells5 T6'
            clear T6'
            have hskj := SKL.out j2
            by_cases hlt2 : j2 < t.kids.length
            · have hj2z : (j2 : Int) < (t.kids.length : Int) := by omega
              have hit2 : t.kids[j2]? = some t.kids[j2] := List.getElem?_eq_getElem hlt2
              have hmem := List.getElem_mem hlt2
              have hsz2 := szK_take (d := d') hit2
              have hsk3 := SKL.out (j2 + 1)
              obtain ⟨g, A1, c1, K2, ck2, hK, hg, x0, x1, x2, x3, x4, hnk⟩ := KID.out _ Q1.out _ _ hit2
              subst hK
              have hgw := hPw g.block hg
              have IK := Lib.hid (BYT.out _ Q1.out _ _ hmem hnk)
              rw [show szT d' t.kids[j2] = (bytesT d' t.kids[j2]).length from rfl] at hsz2
              generalize bytesT d' t.kids[j2] = L8 at *
              generalize t.kids[j2] = t' at *
              have RL := Lib.hid (fun (X2 : World) (hb : Below w5.heap.size w5 X2) => show FrcL d' t.kids w5 (.int .i64 ((szK d' (t.kids.take j2) : Int) + (L8.length : Int))) (.int .i64 ((j2 : Int) + 1)) X2 from
                ⟨j2 + 1, by rw [hsz2, Int.natCast_add], by rw [Int.natCast_add]; rfl, by omega, hb⟩)
              have hbd : szK d' (t.kids.take j2) + L8.length ≤ 100000000 := by omega
              generalize szK d' (t.kids.take j2) = sj at *
              clear hit2 hmem hnk KID BYT BYN NEXT hsz2 hsk3 hskj hszk hszk2 hskl SKL OK HN
              go_wp2_with fail
              go_must (go_fit IK.out)
              rintro e X2 ⟨A8, c8, rfl, ho8, hb8⟩
              have Q2 := Lib.hid (two_belowK Q1.out hb8 zX)
              clear IK ho8 hb8 u0 u1 u2 u3 u4 x0 x1 x2 x3 x4
              go_wp2
              go_roundw
              case rel => exact RL.out _ Q2.out
              case measure => simp [intOf]; omega
            · obtain rfl : t.kids.length = j2 := by omega
              rw [List.take_length] at hskj ⊢
              have IK := Lib.hid (BYN.out _ Q1.out)
              rw [show szT (d' + 1) t = (bytesT (d' + 1) t).length from rfl] at fs1 fs2 haz
              generalize bytesT (d' + 1) t = L9 at *
              obtain ⟨b0, hb0⟩ : ∃ b0 : Nat, a + hdT d' t = b0 := ⟨_, rfl⟩
              have hat : (a : Int) + (L9.length : Int) - ((szK d' t.kids : Nat) : Int) = (b0 : Int) := by omega
              have hbb : b0 + szK d' t.kids ≤ 1000000 := by omega
              have hb0a : a + hdT d' t + szK d' (t.kids.take j) = b0 + szK d' (t.kids.take j) := by omega
              rw [hb0a] at NEXT
              generalize hs10 : szK d' t.kids = s10 at *
              clear hb0 hb0a BYN
              go_wp2_with fail
              go_must (go_fit IK.out)
              rintro e X2 ⟨A8, c8, rfl, ho8, hb8⟩
              have Q2 := Lib.hid (two_belowK Q1.out hb8 zX)
              clear IK ho8 hb8 u0 u1 u2 u3 u4 Q1
              go_wp2
              go_loopw [8, 12] (fun p i X => FrdL d' t.kids b0 j w5 p i X) (fun _ i _ => j - (intOf i).toNat)
              case atStart => exact ⟨0, by simp [szK], rfl, Nat.zero_le _, Q2.out⟩
              case round =>
                obtain ⟨j3, rfl, rfl, hj3, hbX⟩ := hrel
                have Q3 := Lib.hid hbX
                have zY := hbX.size
                clear hbX Q2
                have T6' := stayK T6.out Q3.out
                obtain ⟨u0, u1, u2, u3, u4⟩ := cells5 T6'
                obtain ⟨f0, f1, f2, f3, f4⟩ := free5 T6'
                have ck3 := (Q3.out.cell (by rw [Kit.block_add]; exact hadw)).trans ck
                clear T6'
                by_cases hlt3 : j3 < j
                · have hj3z : (j3 : Int) < (j : Int) := by omega
                  have hj3y : (j3 : Int) < (t.kids.length : Int) := by omega
                  have hj3l : j3 < t.kids.length := by omega
                  have hit2 : t.kids[j3]? = some t.kids[j3] := List.getElem?_eq_getElem hj3l
                  have hmem := List.getElem_mem hj3l
                  have hsz2 := szK_take (d := d') hit2
                  have hsk3 := SKL.out (j3 + 1)
                  obtain ⟨g, A1, c1, K2, ck2, hK, hg, x0, x1, x2, x3, x4, hnk⟩ := KID.out _ Q3.out _ _ hit2
                  subst hK
                  have hgw := hPw g.block hg
                  have IK := Lib.hid (BYT.out _ Q3.out _ _ hmem hnk)
                  rw [show szT d' t.kids[j3] = (bytesT d' t.kids[j3]).length from rfl] at hsz2
                  generalize bytesT d' t.kids[j3] = L8 at *
                  generalize t.kids[j3] = t' at *
                  have RL := Lib.hid (fun (X2 : World) (hb : Below w5.heap.size w5 X2) (z : Int) (hz : z = ((b0 + szK d' (t.kids.take j3) : Nat) : Int) + (L8.length : Int)) => show FrdL d' t.kids b0 j w5 (.int .i64 z) (.int .i64 ((j3 : Int) + 1)) X2 from
                    ⟨j3 + 1, by rw [hz, hsz2]; congr 1; omega, by rw [Int.natCast_add]; rfl, by omega, hb⟩)
                  have hbd : b0 + szK d' (t.kids.take j3) + L8.length ≤ 100000000 := by omega
                  obtain ⟨sj, hsj⟩ : ∃ sj, b0 + szK d' (t.kids.take j3) = sj := ⟨_, rfl⟩
                  rw [hsj] at RL hbd ⊢
                  clear hit2 hmem hnk KID BYT NEXT hsz2 hsk3 hskj hszk hszk2 hskl SKL OK HN hsj f0 f1 f2 f3 f4
                  go_wp2_with fail
                  go_must (go_fit IK.out)
                  rintro e X3 ⟨A8, c8, rfl, ho8, hb8⟩
                  have Q4 := Lib.hid (two_belowK Q3.out hb8 zY)
                  have ck4 := (hb8.cell (by rw [Kit.block_add]; omega)).trans ck3
                  clear IK ho8 hb8 u0 u1 u2 u3 u4 x0 x1 x2 x3 x4
                  go_wp2
                  go_roundw
                  case rel => exact RL.out _ Q4.out _ rfl
                  case measure => simp [intOf]; omega
                · obtain rfl : j = j3 := by omega
                  have hPq := hPw
                  obtain ⟨g, A1, c1, K2, ck2, hK, hg, x0, x1, x2, x3, x4, hnk⟩ := KID.out _ Q3.out _ _ hit
                  subst hK
                  have hgw := hPw g.block hg
                  have hok' := OK.out.kid (List.getElem_mem hjl)
                  have hmx : b0 + szK d' (t.kids.take j) + szT d' t.kids[j] ≤ 1000000 := by omega
                  have RL := Lib.hid (fun (X2 : World) (h6 : X2.heap[b6]? = some (.cells #[.int .i64 t.kids[j].cls, .int .i64 t.kids[j].num, .bool t.kids[j].cons, .slice A1 t.kids[j].con.length c1, .slice K2 t.kids[j].kids.length ck2] 26 (0, 0)))
                      (h2 : X2.heap[w.heap.size]? = some (.cells #[.int .i64 0, .int .i64 0] 47 (0, 0))) (h5 : X2.heap[w.heap.size + 1]? = some (.cells #[.int .i64 0, .int .i64 0] 29 (0, 0))) (hkp : Keeps (fun b => w.heap.size + 2 ≤ b ∧ b < b6) _ X2) (hB2 : Below B w5 X2) (hW2 : Below w.heap.size w X2) =>
                    show FrnL w b6 B (some ad) m xs R (.int .i64 ((b0 + szK d' (t.kids.take j) : Nat) : Int)) (.int .i64 ((k : Int) + 1)) X2 from
                    ⟨k + 1, d', b0 + szK d' (t.kids.take j), t.kids[j], A1, c1, K2, ck2, rfl, by rw [Int.natCast_add]; rfl, by omega, NEXT.out, hok', hmx, h6, hnk.keep hkp, h2, h5, RI.out.below hB2, hW2⟩)
                  have T6x := Lib.hid (stayK T6.out Q3.out)
                  have T2x := Lib.hid (stayK T2.out Q3.out)
                  have T5x := Lib.hid (stayK T5.out Q3.out)
                  have QB3 := Lib.hid (Q3.out.mono (show B ≤ w5.heap.size by omega))
                  have BE3 := Lib.hid (two_belowK BE.out Q3.out BE.out.size)
                  generalize b0 + szK d' (t.kids.take j) = bj at *
                  generalize t.kids[j] = t' at *
                  clear hit hnk KID BYT NEXT hskj hszk hszk2 hskl SKL OK HN hok' T2 T5 T6 RI BE
                  go_upto_region 20 with fail
                  go_region
                  all_goals
                    go_wp2
                    go_roundw
                    case rel =>
                      clear u0 u1 u2 u3 u4 f0 f1 f2 f3 f4 x0 x1 x2 x3 x4 ck3 ck
                      refine RL.out _ ?_ ?_ ?_ ?_ ?_ ?_
                      · exact set5 _ _ _ _ _ T6x.out
                      · exact far5 T2x.out (by omega) _ _ _ _ _
                      · exact far5 T5x.out (by omega) _ _ _ _ _
                      · exact (by repeat' (first | (with_reducible assumption) | (with_reducible exact Keeps.refl _ _) | (with_reducible refine Keeps.drewN ?_ _) | (with_reducible refine Keeps.drew ?_) | (with_reducible refine Keeps.set ?_ ?_ _) | (intro b hb; simp only [ne_eq]; omega)))
                      · have bel := QB3.out
                        exact (by repeat' (first | (with_reducible exact Below.refl _ _) | (with_reducible assumption) | (with_reducible refine below_drewN ?_ _) | (with_reducible refine Below.drew ?_) | (with_reducible refine Below.alloc ?_ ?_ _) | (with_reducible refine Below.setCell ?_ ?_ _) | go_size))
                      · have bel := BE3.out
                        exact (by repeat' (first | (with_reducible exact Below.refl _ _) | (with_reducible assumption) | (with_reducible refine below_drewN ?_ _) | (with_reducible refine Below.drew ?_) | (with_reducible refine Below.alloc ?_ ?_ _) | (with_reducible refine Below.setCell ?_ ?_ _) | go_size))
                    case measure => simp [intOf]; omega
      · obtain rfl : m = k := by omega
        have E := FN.out
        rw [← hxl, List.drop_length] at E
        simp only [findT] at E
        have BYN := Lib.hid (refbytes_any d w5 (fun b => w.heap.size + 2 ≤ b ∧ b < b6) _ t HN.out (fun b h => by omega) OK.out)
        rw [show szT d t = (bytesT d t).length from rfl] at E haz
        generalize bytesT d t = L9 at *
        subst E
        clear FN HN OK s0 s1 g0' g1' p0 p1 h0' h1' f0 f1 f2 f3 f4
        go_wp2_with fail
        go_must (go_fit BYN.out)
        rintro e X ⟨A8, c8, rfl, ho8, hb8⟩
        have T2' := Lib.hid (stayK T2.out hb8)
        have T5' := Lib.hid (stayK T5.out hb8)
        have BE' := Lib.hid (two_belowK BE.out hb8 BE.out.size)
        have zX := hb8.size
        clear T2 T5 BE ho8 hb8 BYN u0 u1 u2 u3 u4
        have T2 := T2'
        have T5 := T5'
        have BE := BE'
        obtain ⟨s0, s1⟩ := cells2 T5.out
        obtain ⟨g0', g1', -, -, -⟩ := free5 T5.out
        obtain ⟨p0, p1⟩ := cells2 T2.out
        obtain ⟨h0', h1', -, -, -⟩ := free5 T2.out
        go_wp2
        clear s0 s1 g0' g1' p0 p1 h0' h1'
        have tc := cells2 (far2 (c := w.heap.size + 1) (set2 (.int .i64 (a : Int)) (.int .i64 ((a : Int) + (L9.length : Int))) T2.out) (by omega) (.int .i64 0) (.int .i64 0))
        have td := cells2 (set2 (.int .i64 0) (.int .i64 0) (far2 (c := w.heap.size) T5.out (by omega) (.int .i64 (a : Int)) (.int .i64 ((a : Int) + (L9.length : Int)))))
        refine bodyPost_ret (v := .tuple #[.agg #[.int .i64 (a : Int), .int .i64 ((a : Int) + (L9.length : Int))], err 0 0]) (by simp [results, Try.results27, go_sem, *]) rfl ?_
        have bel := BE.out
        exact ⟨rfl, (by repeat' (first | (with_reducible exact Below.refl _ _) | (with_reducible assumption) | (with_reducible refine below_drewN ?_ _) | (with_reducible refine Below.drew ?_) | (with_reducible refine Below.alloc ?_ ?_ _) | (with_reducible refine Below.setCell ?_ ?_ _) | go_size))⟩
  · have E := HRR.out
    rw [if_neg hz] at E
    subst E
    clear HRR NV T6
    go_upto_region 3 with fail
    go_region
    all_goals
      go_wp2
      clear s0 s1 g0' g1' p0 p1 h0' h1' v0 v1
      have tc := cells2 (far2 (c := w.heap.size + 1) (set2 (.int .i64 0) (.int .i64 0) T2.out) (by omega) (.int .i64 qc) (.int .i64 qo))
      have td := cells2 (set2 (.int .i64 qc) (.int .i64 qo) (far2 (c := w.heap.size) T5.out (by omega) (.int .i64 0) (.int .i64 0)))
      refine bodyPost_ret (v := .tuple #[.agg #[.int .i64 0, .int .i64 0], err qc qo]) (by simp [results, Try.results27, go_sem, *]) rfl ?_
      exact ⟨rfl, (by repeat' (first | (with_reducible exact Below.refl _ _) | (with_reducible assumption) | (with_reducible refine below_drewN ?_ _) | (with_reducible refine Below.drew ?_) | (with_reducible refine Below.alloc ?_ ?_ _) | (with_reducible refine Below.setCell ?_ ?_ _) | go_size))⟩
end Go.Proofs.Ytoomdaljdbennaa.Tree
