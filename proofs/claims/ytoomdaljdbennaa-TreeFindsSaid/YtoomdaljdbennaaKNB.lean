/- Joined texts: NodI, PutT, NodJ, NodK, NodV, NodW, NodH. -/
import Derived.Test.YtoomdaljdbennaaKNA
import Derived.Test.YtoomdaljdbennaaKU
import Derived.Test.YtoomdaljdbennaaKA
set_option linter.unusedSimpArgs false
set_option linter.unusedVariables false
/- Walks: encode of the package tree. -/
namespace Go.Proofs.Ytoomdaljdbennaa.Tree
open Go.RowKit Kit Tlv

/-- bytes of a call's own, without an error -/
def EncR (w : World) (l : List UInt8) (e : Ending) (w' : World) : Prop :=
  ∃ A c, e = .returned (.tuple #[.slice A l.length c, .int .i64 0]) ∧ Own w' w.heap.size A l.length c l ∧ Below w.heap.size w w'
theorem flat_more {f : T → List UInt8} {ks : List T} {k : Nat} (hk : k < ks.length) : (ks.take (k + 1)).flatMap f = (ks.take k).flatMap f ++ f ks[k] := by
  rw [List.take_add_one, List.getElem?_eq_getElem hk, List.flatMap_append]
  simp
theorem flat_len {f : T → List UInt8} {ks : List T} (k : Nat) : ((ks.take k).flatMap f).length ≤ (ks.flatMap f).length := by
  conv => rhs; rw [← List.take_append_drop k ks, List.flatMap_append, List.length_append]
  omega
/-- where the loop of encode stands -/
def EncL (f : T → List UInt8) (w : World) (N : Array Value) (gc : List UInt8) (gk : List T) (m i : Value) (wr : World) : Prop :=
  ∃ (k : Nat) (A : Option Addr) (c : Nat), i = .int .i64 (k : Int) ∧ k ≤ gk.length ∧ m = .slice A (gc ++ (gk.take k).flatMap f).length c ∧ Own wr (w.heap.size + 1) A (gc ++ (gk.take k).flatMap f).length c (gc ++ (gk.take k).flatMap f) ∧
    wr.heap[w.heap.size]? = some (.cells N 26 (0, 0)) ∧ Below w.heap.size w wr

set_option maxRecDepth 100000 in
set_option maxHeartbeats 4000000 in
theorem encode_step (d : Nat) (f : T → List UInt8) (w : World) (P : Nat → Prop) (t : T) {A6 K6 : Option Addr} {c6 ck6 : Nat} {xs : List Value} (hr : RdP w P A6 t.con.length t.con) (hcp : CellsP w P K6 xs) (hrow : RowR (NodeR d w P) t.kids xs)
    (hP : ∀ b, P b → b < w.heap.size) (hkl : t.kids.length ≤ 1000000) (hln : (t.con ++ t.kids.flatMap f).length ≤ 100000000) (hcode : encCode t.cls t.num (t.con ++ t.kids.flatMap f).length = 0)
    (ih : ∀ k, k ∈ t.kids → ∀ (X : World) (v : Value), NodeR d X P v k → w.heap.size ≤ X.heap.size → Calls Try.prog 31 #[v] X (EncR X (f k))) :
    Calls Try.prog 31 #[nodeV t A6 c6 K6 ck6] w (EncR w (encL t.cls t.cons t.num (t.con ++ t.kids.flatMap f))) := by
  obtain ⟨g1, g2, g3, gc, gk⟩ := t
  simp only [nodeV, T.cls, T.num, T.cons, T.con, T.kids] at *
  have HX := Lib.hid hcp
  have HY := Lib.hid hrow
  have IH := Lib.hid ih
  have hgcl : gc.length ≤ 100000000 := by rw [List.length_append] at hln; omega
  have CLN := Lib.hid (fun (X : World) (h : Below w.heap.size w X) => Cur.clone_any A6 gc.length c6 gc X ((hr.rd hP).below h) (by omega) h.size)
  have FL := Lib.hid (fun k => flat_len (f := f) (ks := gk) k)
  have LN := Lib.hid hln
  have ENC := Lib.hid (fun (X : World) (A : Option Addr) (cp : Nat) (h : Rd X X.heap.size A (gc ++ gk.flatMap f).length (gc ++ gk.flatMap f)) => encode_any (cp := cp) g1 g2 g3 X h (Nat.le_refl _) (by omega))
  rw [hcode] at ENC
  obtain ⟨L, hL⟩ : ∃ L, encL g1 g3 g2 (gc ++ gk.flatMap f) = L := ⟨_, rfl⟩
  rw [hL] at ENC ⊢
  clear ih hcp hrow hr hln hcode hL
  have START : Hid (∀ (X : World) (A : Option Addr) (c : Nat), Own X (w.heap.size + 1) A gc.length c gc → X.heap[w.heap.size]? = some (.cells #[.int .i64 g1, .int .i64 g2, .bool g3, .slice A6 gc.length c6, .slice K6 gk.length ck6] 26 (0, 0)) → Below w.heap.size w X →
      EncL f w #[.int .i64 g1, .int .i64 g2, .bool g3, .slice A6 gc.length c6, .slice K6 gk.length ck6] gc gk (.slice A gc.length c) (.int .i64 0) X) :=
    Lib.hid (fun X A c h1 h2 h3 => ⟨0, A, c, rfl, Nat.zero_le _, by simp, by simpa using h1, h2, h3⟩)
  go_enter Try.func31, Try.ntmps31
  go_wp2_with fail
  go_must (go_fit (CLN.out _ ((Below.refl _ _).alloc (Nat.le_refl _) _)))
  rintro e1 w1 ⟨A1, c1, rfl, ho1, hb1⟩
  have t1 := blk1 hb1
  have bel := bel1 hb1
  replace ho1 : Own w1 (w.heap.size + 1) A1 gc.length c1 gc := by simpa using ho1
  have ST := Lib.hid (START.out w1 A1 c1 ho1 t1 bel)
  obtain ⟨u0, u1, u2, u3, u4⟩ := cells5 t1
  clear t1 bel ho1 hb1 CLN START
  go_wp2_with fail
  clear u0 u1 u2 u3 u4
  go_loopw [4, 15] (fun m i wr => EncL f w _ gc gk m i wr) (fun _ i _ => gk.length - (intOf i).toNat)
  case atStart => exact ST.out
  case round =>
    obtain ⟨k, A, c, rfl, hk, rfl, ho, h1, hb⟩ := hrel
    have T1 := Lib.hid h1
    have BE := Lib.hid hb
    have OW := Lib.hid ho
    obtain ⟨u0, u1, u2, u3, u4⟩ := cells5 h1
    clear h1 ho ST
    by_cases hlt : k < gk.length
    · have hkz : (k : Int) < (gk.length : Int) := by omega
      have hit : gk[k]? = some gk[k] := List.getElem?_eq_getElem hlt
      have hmem : gk[k] ∈ gk := List.getElem_mem hlt
      have kp := Keeps.below hb hP
      obtain ⟨g, A1, c1, K2, ck, hK, hg, x0, x1, x2, x3, x4, hnk⟩ := kid_full (HX.out.keep kp) (HY.out.imp (fun _ _ h => h.keep kp)) hit
      subst hK
      have MORE := Lib.hid (show gc ++ (gk.take (k + 1)).flatMap f = (gc ++ (gk.take k).flatMap f) ++ f gk[k] from by rw [flat_more hlt, List.append_assoc])
      have hsum : (gc ++ (gk.take k).flatMap f).length + (f gk[k]).length ≤ 100000000 := by
        have e := congrArg List.length MORE.out
        have e2 : ((gc ++ (gk.take k).flatMap f) ++ f gk[k]).length = (gc ++ (gk.take k).flatMap f).length + (f gk[k]).length := List.length_append
        have e3 : (gc ++ (gk.take (k + 1)).flatMap f).length = gc.length + ((gk.take (k + 1)).flatMap f).length := List.length_append
        have e4 := FL.out (k + 1)
        have e5 := LN.out
        have e6 : (gc ++ gk.flatMap f).length = gc.length + (gk.flatMap f).length := List.length_append
        omega
      have IH1 := IH.out _ hmem
      generalize f gk[k] = fk at *
      generalize gk[k] = t at *
      obtain ⟨k1, k2, k3, kc, kk⟩ := t
      simp only [T.cls, T.num, T.cons, T.con, T.kids] at x0 x1 x2 x3 x4 hnk
      have hgw := hP g.block hg
      have IK := Lib.hid (IH1 (wr.alloc (.cells #[.int .i64 k1, .int .i64 k2, .bool k3, .slice A1 kc.length c1, .slice K2 kk.length ck] 26)) _ (hnk.keep (Keeps.alloc wr _ (fun b h => Nat.lt_of_lt_of_le (hP b h) hb.size))) (by have := hb.size; simp; omega))
      have HB2 := Lib.hid (show Below w.heap.size w (wr.alloc (.cells #[.int .i64 k1, .int .i64 k2, .bool k3, .slice A1 kc.length c1, .slice K2 kk.length ck] 26)) from hb.alloc hb.size _)
      have T12 := Lib.hid (bk_old (o' := .cells #[.int .i64 k1, .int .i64 k2, .bool k3, .slice A1 kc.length c1, .slice K2 kk.length ck] 26) T1.out)
      have O12 := Lib.hid (OW.out.alloc (.cells #[.int .i64 k1, .int .i64 k2, .bool k3, .slice A1 kc.length c1, .slice K2 kk.length ck] 26))
      have hsz : w.heap.size + 1 ≤ wr.heap.size := by have := Blk_lt T1.out; omega
      clear hit hmem kp hnk hb IH IH1
      go_wp2_with fail
      go_must (go_fit IK.out)
      rintro e w2 ⟨A2, c2, rfl, ho2, hb2⟩
      have T2 := Lib.hid (stayK T12.out hb2)
      have BE2 := Lib.hid (two_belowK HB2.out hb2 HB2.out.size)
      have O2 := Lib.hid (O12.out.below hb2)
      have OB := Lib.hid ho2.rd
      have hs2 : w.heap.size + 1 ≤ w2.heap.size := by have := hb2.size; simp at this; omega
      clear hb2 IK T12 HB2 O12 ho2 u0 u1 u2 u3 u4 x0 x1 x2 x3 x4
      generalize hacc : gc ++ (gk.take k).flatMap f = acc at *
      have NEXT : Hid (∀ (A' : Option Addr) (c' : Nat) (X : World), Own X (w.heap.size + 1) A' (acc.length + fk.length) c' (acc ++ fk) → X.heap[w.heap.size]? = some (.cells #[.int .i64 g1, .int .i64 g2, .bool g3, .slice A6 gc.length c6, .slice (some g) gk.length ck6] 26 (0, 0)) → Below w.heap.size w X →
          EncL f w #[.int .i64 g1, .int .i64 g2, .bool g3, .slice A6 gc.length c6, .slice (some g) gk.length ck6] gc gk (.slice A' (acc.length + fk.length) c') (.int .i64 ((k : Int) + 1)) X) :=
        Lib.hid (fun A' c' X h1 h2 h3 => ⟨k + 1, A', c', by rw [Int.natCast_add]; rfl, by omega, by rw [MORE.out, List.length_append], by rw [MORE.out, List.length_append]; exact h1, h2, h3⟩)
      clear hacc MORE
      go_wp2_with (first | (at_builtin; refine app rfl (.tmp 27) (.tmp 28) rfl rfl O2.out rfl OB.out (by omega) hs2 ?_; intro A3 c3 w3 ho3 hg3 hb3 hs3))
      go_roundw
      case rel => exact NEXT.out _ _ _ ho3 ((hb3.block _ (by omega)).trans T2.out) (BE2.out.trans (hb3.mono (by omega)))
      case measure => simp [intOf]; omega
    · obtain rfl : k = gk.length := by omega
      have O2 := OW.out
      rw [List.take_length] at O2 ⊢
      generalize gc ++ gk.flatMap f = tot at *
      have EN := Lib.hid (ENC.out wr A c O2.rd)
      clear HX HY IH ENC OW O2 FL
      go_wp2_with fail
      go_must (go_fit EN.out)
      rintro e w2 ⟨A2, c2, rfl, ho2, hb2⟩
      have FIN : Hid (EncR w L (.returned (.tuple #[.slice A2 L.length c2, .int .i64 0])) w2) := Lib.hid ⟨A2, c2, rfl, ho2.mono BE.out.size, two_belowK BE.out hb2 BE.out.size⟩
      clear EN ho2 hb2 u0 u1 u2 u3 u4
      go_wp2
      go_ret2
      exact FIN.out
end Go.Proofs.Ytoomdaljdbennaa.Tree
/- Walks: Put of the reference (for seats without the package element). -/
namespace Go.Proofs.Ytoomdaljdbennaa.Tree
open Go.RowKit Kit Tlv

/-- bytes of a call's own -/
def OwnR (w : World) (l : List UInt8) (e : Ending) (w' : World) : Prop :=
  ∃ A c, e = .returned (.slice A l.length c) ∧ Own w' w.heap.size A l.length c l ∧ Below w.heap.size w w'
/-- the reference's Put -/
def putT (x : Int) (l : List UInt8) : List UInt8 := ofI x :: (lenL l.length ++ l)
theorem putT_enc {c n : Int} {b : Bool} {l : List UInt8} (h : encCode c n l.length = 0) : putT (idByte c b n) l = encL c b n l := by
  obtain ⟨h1, h2⟩ := encCode_ok h
  rw [(enc_ok b l h1 h2).1]; rfl
theorem OwnR.mk {w X : World} {l m : List UInt8} {A : Option Addr} {n c : Nat} (hl : l = m) (hn : l.length = n) (ho : Own X w.heap.size A n c m) (hb : Below w.heap.size w X) : OwnR w l (.returned (.slice A n c)) X := by
  subst hn hl
  exact ⟨A, c, rfl, ho, hb⟩

set_option maxHeartbeats 2000000 in
theorem putT_any {A : Option Addr} {n c B : Nat} {l : List UInt8} (x : Int) (w : World) (hr : Rd w B A n l) (hB : B ≤ w.heap.size) (hx0 : 0 ≤ x) (hx1 : x ≤ 255) (hn : n ≤ 140737488355000) :
    Calls Try.prog 35 #[.int .u8 x, .slice A n c] w (OwnR w (putT x l)) := by
  have hl := hr.len
  have LN := Lib.hid (fun w => reflength_any (n : Int) w)
  have PL := Lib.hid (show putT x l = [ofI x] ++ lenL (n : Int) ++ l from by unfold putT; rw [hl]; simp)
  have lb := len_bd (n : Int)
  generalize putT x l = u at *
  generalize lenL (n : Int) = L at *
  generalize lenCode (n : Int) = lc at *
  obtain ⟨m, hm⟩ : ∃ m, L.length = m := ⟨_, rfl⟩
  rw [hm] at LN lb
  have HM := Lib.hid hm
  have HR := Lib.hid hr
  have HL := Lib.hid hl
  clear hr hm hl
  go_enter Try.func35, Try.ntmps35
  go_wp2_with fail
  refine (LN.out _).mono ?_
  rintro e w1 ⟨A1, c1, rfl, ho, hb⟩
  have zs := hb.size
  have ow := lit1 (base := w.heap.size) w1 x hx0 hx1 zs
  have r1 := ho.rd.alloc (Nat.le_refl _) (.cells #[.int .u8 x] 5)
  have r2 := (HR.out.below (hb.mono hB)).alloc (by omega) (.cells #[.int .u8 x] 5)
  have bel1 := hb.alloc zs (.cells #[.int .u8 x] 5)
  clear ho HR LN
  go_wp2_with (first | (at_builtin; refine app rfl (.tmp 14) (.tmp 15) rfl rfl ow rfl r1 (by omega) bel1.size ?_; intro A2 c2 w2 ho2 hg2 hb2 hs2) | (at_builtin; refine app rfl (.tmp 16) (.tmp 17) rfl rfl ho2 rfl (r2.below (hb2.mono (by omega))) (by omega) (bel1.trans hb2).size ?_; intro A3 c3 w3 ho3 hg3 hb3 hs3))
  go_ret
  exact OwnR.mk PL.out (by rw [PL.out, List.length_append, List.length_append, HM.out, HL.out]; rfl) ho3 ((bel1.trans hb2).trans hb3)
end Go.Proofs.Ytoomdaljdbennaa.Tree
/- Walks: Bytes of the reference. -/
namespace Go.Proofs.Ytoomdaljdbennaa.Tree
open Go.RowKit Kit Tlv

/-- where the loop of Bytes stands -/
def BytL (f : T → List UInt8) (w : World) (N : Array Value) (gc : List UInt8) (gk : List T) (m i : Value) (wr : World) : Prop :=
  ∃ (k : Nat) (A : Option Addr) (c : Nat), i = .int .i64 (k : Int) ∧ k ≤ gk.length ∧ m = .slice A (gc ++ (gk.take k).flatMap f).length c ∧ Own wr (w.heap.size + 1) A (gc ++ (gk.take k).flatMap f).length c (gc ++ (gk.take k).flatMap f) ∧
    wr.heap[w.heap.size]? = some (.cells N 26 (0, 0)) ∧ Below w.heap.size w wr
theorem idByte_bd (c n : Int) (b : Bool) (h : idCode c n = 0) : 0 ≤ idByte c b n ∧ idByte c b n ≤ 255 := by
  have hb : ¬ idBad c n := by
    intro hb
    have := (id_bad b hb).2
    omega
  have e := (id_ok b hb).1
  unfold idBad at hb
  rw [e]
  cases b <;> simp <;> omega

set_option maxRecDepth 100000 in
set_option maxHeartbeats 4000000 in
theorem bytesr_step (d : Nat) (f : T → List UInt8) (w : World) (P : Nat → Prop) (t : T) {A6 K6 : Option Addr} {c6 ck6 : Nat} {xs : List Value} (hr : RdP w P A6 t.con.length t.con) (hcp : CellsP w P K6 xs) (hrow : RowR (NodeR d w P) t.kids xs)
    (hP : ∀ b, P b → b < w.heap.size) (hkl : t.kids.length ≤ 1000000) (hln : (t.con ++ t.kids.flatMap f).length ≤ 100000000) (hcode : encCode t.cls t.num (t.con ++ t.kids.flatMap f).length = 0)
    (ih : ∀ k, k ∈ t.kids → ∀ (X : World) (v : Value), NodeR d X P v k → w.heap.size ≤ X.heap.size → Calls Try.prog 25 #[v] X (OwnR X (f k))) :
    Calls Try.prog 25 #[nodeV t A6 c6 K6 ck6] w (OwnR w (encL t.cls t.cons t.num (t.con ++ t.kids.flatMap f))) := by
  obtain ⟨g1, g2, g3, gc, gk⟩ := t
  simp only [nodeV, T.cls, T.num, T.cons, T.con, T.kids] at *
  have HX := Lib.hid hcp
  have HY := Lib.hid hrow
  have IH := Lib.hid ih
  have hgcl : gc.length ≤ 100000000 := by rw [List.length_append] at hln; omega
  have HRC := Lib.hid (hr.rd hP)
  have FL := Lib.hid (fun k => flat_len (f := f) (ks := gk) k)
  have LN := Lib.hid hln
  have hic := (encCode_ok hcode).1
  have ID := Lib.hid (fun w => refident_any g1 g2 g3 w)
  rw [hic] at ID
  have hib := idByte_bd g1 g2 g3 hic
  have PUT := Lib.hid (fun (X : World) (A : Option Addr) (cp : Nat) (h : Rd X X.heap.size A (gc ++ gk.flatMap f).length (gc ++ gk.flatMap f)) => putT_any (c := cp) (idByte g1 g3 g2) X h (Nat.le_refl _) hib.1 hib.2 (by omega))
  rw [putT_enc hcode] at PUT
  obtain ⟨L, hL⟩ : ∃ L, encL g1 g3 g2 (gc ++ gk.flatMap f) = L := ⟨_, rfl⟩
  rw [hL] at PUT ⊢
  generalize idByte g1 g3 g2 = ib at *
  clear ih hcp hrow hr hln hcode hL hic hib
  have START : Hid (∀ (X : World) (A : Option Addr) (c : Nat), Own X (w.heap.size + 1) A gc.length c gc → X.heap[w.heap.size]? = some (.cells #[.int .i64 g1, .int .i64 g2, .bool g3, .slice A6 gc.length c6, .slice K6 gk.length ck6] 26 (0, 0)) → Below w.heap.size w X →
      BytL f w #[.int .i64 g1, .int .i64 g2, .bool g3, .slice A6 gc.length c6, .slice K6 gk.length ck6] gc gk (.slice A gc.length c) (.int .i64 0) X) :=
    Lib.hid (fun X A c h1 h2 h3 => ⟨0, A, c, rfl, Nat.zero_le _, by simp, by simpa using h1, h2, h3⟩)
  have ow0 : Own ((w.alloc (.cells #[.int .i64 g1, .int .i64 g2, .bool g3, .slice A6 gc.length c6, .slice K6 gk.length ck6] 26)).alloc (.cells #[] 5)) (w.heap.size + 1) (some ⟨w.heap.size + 1, 0, none⟩) 0 0 [] := by
    have h := Own.lit (base := w.heap.size + 1) (w.alloc (.cells #[.int .i64 g1, .int .i64 g2, .bool g3, .slice A6 gc.length c6, .slice K6 gk.length ck6] 26)) [] (by simp) (Nat.zero_le _)
    simpa [vs] using h
  have rc0 := (HRC.out.alloc (Nat.le_refl _) (.cells #[.int .i64 g1, .int .i64 g2, .bool g3, .slice A6 gc.length c6, .slice K6 gk.length ck6] 26)).alloc (by simp) (.cells #[] 5)
  have be0 : Below w.heap.size w ((w.alloc (.cells #[.int .i64 g1, .int .i64 g2, .bool g3, .slice A6 gc.length c6, .slice K6 gk.length ck6] 26)).alloc (.cells #[] 5)) := (by repeat' (first | (with_reducible exact Below.refl _ _) | (with_reducible assumption) | (with_reducible refine below_drewN ?_ _) | (with_reducible refine Below.drew ?_) | (with_reducible refine Below.alloc ?_ ?_ _) | (with_reducible refine Below.setCell ?_ ?_ _) | go_size))
  have t0 : ((w.alloc (.cells #[.int .i64 g1, .int .i64 g2, .bool g3, .slice A6 gc.length c6, .slice K6 gk.length ck6] 26)).alloc (.cells #[] 5)).heap[w.heap.size]? = _ := bk_old (bk_new rfl)
  have B0 := Lib.hid be0
  have T0 := Lib.hid t0
  clear be0 t0
  go_enter Try.func25, Try.ntmps25
  go_wp2_with (first | (go_at_call 34; go_must (go_fit (ID.out _)); rintro e w1 ⟨rfl, rfl⟩) | (at_builtin; go_must (refine app rfl (.tmp 17) (.tmp 19) rfl rfl ow0 rfl rc0 (by simp; omega) (by simp) ?_); intro A1 c1 w1 ho1 hg1 hb1 hs1))
  simp only [List.length_nil, Nat.zero_add, List.nil_append] at ho1
  have ST := Lib.hid (START.out w1 A1 c1 ho1 ((hb1.block _ (by omega)).trans T0.out) (B0.out.trans (hb1.mono (by omega))))
  clear ow0 rc0 ho1 hg1 hb1 hs1 START T0 B0
  go_loopw [5, 6] (fun m i wr => BytL f w _ gc gk m i wr) (fun _ i _ => gk.length - (intOf i).toNat)
  case atStart => first | exact ST.out | simpa using ST.out
  case round =>
    obtain ⟨k, A, c, rfl, hk, rfl, ho, h1, hb⟩ := hrel
    have T1 := Lib.hid h1
    have BE := Lib.hid hb
    have OW := Lib.hid ho
    obtain ⟨u0, u1, u2, u3, u4⟩ := cells5 h1
    clear h1 ho ST
    by_cases hlt : k < gk.length
    · have hkz : (k : Int) < (gk.length : Int) := by omega
      have hit : gk[k]? = some gk[k] := List.getElem?_eq_getElem hlt
      have hmem : gk[k] ∈ gk := List.getElem_mem hlt
      have kp := Keeps.below hb hP
      obtain ⟨g, A1, c1, K2, ck, hK, hg, x0, x1, x2, x3, x4, hnk⟩ := kid_full (HX.out.keep kp) (HY.out.imp (fun _ _ h => h.keep kp)) hit
      subst hK
      have MORE := Lib.hid (show gc ++ (gk.take (k + 1)).flatMap f = (gc ++ (gk.take k).flatMap f) ++ f gk[k] from by rw [flat_more hlt, List.append_assoc])
      have hsum : (gc ++ (gk.take k).flatMap f).length + (f gk[k]).length ≤ 100000000 := by
        have e := congrArg List.length MORE.out
        have e2 : ((gc ++ (gk.take k).flatMap f) ++ f gk[k]).length = (gc ++ (gk.take k).flatMap f).length + (f gk[k]).length := List.length_append
        have e3 : (gc ++ (gk.take (k + 1)).flatMap f).length = gc.length + ((gk.take (k + 1)).flatMap f).length := List.length_append
        have e4 := FL.out (k + 1)
        have e5 := LN.out
        have e6 : (gc ++ gk.flatMap f).length = gc.length + (gk.flatMap f).length := List.length_append
        omega
      have IK := Lib.hid (IH.out _ hmem wr _ hnk hb.size)
      generalize f gk[k] = fk at *
      generalize gk[k] = t at *
      obtain ⟨k1, k2, k3, kc, kk⟩ := t
      simp only [T.cls, T.num, T.cons, T.con, T.kids] at x0 x1 x2 x3 x4 IK
      have hgw := hP g.block hg
      have hsz : w.heap.size + 1 ≤ wr.heap.size := by have := Blk_lt T1.out; omega
      clear hit hmem kp hnk hb IH
      go_wp2_with fail
      go_must (go_fit IK.out)
      rintro e w2 ⟨A2, c2, rfl, ho2, hb2⟩
      have T2 := Lib.hid (stayK T1.out hb2)
      have BE2 := Lib.hid (two_belowK BE.out hb2 BE.out.size)
      have O2 := Lib.hid (OW.out.below hb2)
      have OB := Lib.hid ho2.rd
      have hs2 : w.heap.size + 1 ≤ w2.heap.size := by have := hb2.size; omega
      clear hb2 IK T1 ho2 u0 u1 u2 u3 u4 x0 x1 x2 x3 x4
      generalize hacc : gc ++ (gk.take k).flatMap f = acc at *
      have NEXT : Hid (∀ (A' : Option Addr) (c' : Nat) (X : World), Own X (w.heap.size + 1) A' (acc.length + fk.length) c' (acc ++ fk) → X.heap[w.heap.size]? = some (.cells #[.int .i64 g1, .int .i64 g2, .bool g3, .slice A6 gc.length c6, .slice (some g) gk.length ck6] 26 (0, 0)) → Below w.heap.size w X →
          BytL f w #[.int .i64 g1, .int .i64 g2, .bool g3, .slice A6 gc.length c6, .slice (some g) gk.length ck6] gc gk (.slice A' (acc.length + fk.length) c') (.int .i64 ((k : Int) + 1)) X) :=
        Lib.hid (fun A' c' X h1 h2 h3 => ⟨k + 1, A', c', by rw [Int.natCast_add]; rfl, by omega, by rw [MORE.out, List.length_append], by rw [MORE.out, List.length_append]; exact h1, h2, h3⟩)
      clear hacc MORE
      go_wp2_with (first | (at_builtin; refine app rfl (.tmp 28) (.tmp 34) rfl rfl O2.out rfl OB.out (by omega) hs2 ?_; intro A3 c3 w3 ho3 hg3 hb3 hs3))
      go_roundw
      case rel => exact NEXT.out _ _ _ ho3 ((hb3.block _ (by omega)).trans T2.out) (BE2.out.trans (hb3.mono (by omega)))
      case measure => simp [intOf]; omega
    · obtain rfl : k = gk.length := by omega
      have O2 := OW.out
      rw [List.take_length] at O2 ⊢
      generalize gc ++ gk.flatMap f = tot at *
      have PT := Lib.hid (PUT.out wr A c O2.rd)
      clear HX HY IH PUT OW O2 FL
      go_wp2_with fail
      go_must (go_fit PT.out)
      rintro e w2 ⟨A2, c2, rfl, ho2, hb2⟩
      have FIN : Hid (OwnR w L (.returned (.slice A2 L.length c2)) w2) := Lib.hid ⟨A2, c2, rfl, ho2.mono BE.out.size, two_belowK BE.out hb2 BE.out.size⟩
      clear PT ho2 hb2 u0 u1 u2 u3 u4
      go_wp2
      go_ret
      exact FIN.out
end Go.Proofs.Ytoomdaljdbennaa.Tree
/- Walks: encode of the package tree and Bytes of the reference, of any number of levels. -/
namespace Go.Proofs.Ytoomdaljdbennaa.Tree
open Go.RowKit Kit Tlv

theorem flat_mem {f : T → List UInt8} : ∀ {ks : List T} {k : T}, k ∈ ks → (f k).length ≤ (ks.flatMap f).length
  | x :: xs, k, h => by
    rw [List.flatMap_cons, List.length_append]
    rcases List.mem_cons.1 h with rfl | h
    · omega
    · have := flat_mem (f := f) h; omega
/-- a tree whose encoding can be made -/
def EncOk (d : Nat) (t : T) : Prop := shapedT d t = true ∧ LensOk d t ∧ countT d t ≤ 1000000 ∧ (bytesT d t).length ≤ 100000000
theorem bytes_eq (d : Nat) (t : T) (h : d = 0 → t.kids = []) : bytesT d t = encL t.cls t.cons t.num (t.con ++ t.kids.flatMap (bytesT (d - 1))) := by
  cases d with
  | zero => rw [h rfl]; simp [bytesT]
  | succ d => rfl
theorem lens_eq (d : Nat) (t : T) (h : d = 0 → t.kids = []) (hl : LensOk d t) : lenCode (t.con ++ t.kids.flatMap (bytesT (d - 1))).length = 0 := by
  cases d with
  | zero => rw [h rfl]; simp only [List.flatMap_nil, List.append_nil]; exact hl
  | succ d => exact hl.1
theorem EncOk.node {d : Nat} {t : T} (h : EncOk d t) (hk : d = 0 → t.kids = []) :
    nodeOk t = true ∧ encCode t.cls t.num (t.con ++ t.kids.flatMap (bytesT (d - 1))).length = 0 ∧ (t.con ++ t.kids.flatMap (bytesT (d - 1))).length ≤ 100000000 ∧ t.kids.length ≤ 1000000 := by
  obtain ⟨h1, h2, h3, h4⟩ := h
  rw [shapedT_eq d t hk, Bool.and_eq_true] at h1
  have hc := encCode_mk (nodeOk_iff.1 h1.1).1 (lens_eq d t hk h2)
  refine ⟨h1.1, hc, ?_, ?_⟩
  · rw [bytes_eq d t hk, enc_len hc] at h4
    omega
  · cases d with
    | zero => rw [hk rfl]; simp
    | succ d => have := count_kids (d := d) (t := t); omega
theorem EncOk.kid {d : Nat} {t k : T} (h : EncOk (d + 1) t) (hk : k ∈ t.kids) : EncOk d k := by
  obtain ⟨-, -, h5, -⟩ := h.node (fun h => by omega)
  obtain ⟨h1, h2, h3, h4⟩ := h
  simp only [shapedT, Bool.and_eq_true] at h1
  refine ⟨List.all_eq_true.1 h1.2 k hk, h2.2 k hk, ?_, ?_⟩
  · have := count_kid (d := d) hk; omega
  · have h6 := flat_mem (f := bytesT d) hk
    rw [List.length_append] at h5
    simp only [Nat.add_sub_cancel] at h5
    omega
/-- ENCODE, of any valid tree in memory -/
theorem treeenc_any : ∀ (d : Nat) (w : World) (P : Nat → Prop) (v : Value) (t : T), NodeR d w P v t → (∀ b, P b → b < w.heap.size) → EncOk d t →
    Calls Try.prog 31 #[v] w (EncR w (bytesT d t)) := by
  intro d
  induction d with
  | zero =>
    intro w P v t hn hP ho
    obtain ⟨A, c, K, ck, xs, rfl, h2, -, -, h5, h6⟩ := hn.open_
    have hk := hn.leaf_kids
    obtain ⟨-, o2, o3, o4⟩ := ho.node (fun _ => hk)
    rw [bytes_eq 0 t (fun _ => hk)]
    exact encode_step (0 - 1) _ w P t h2 h5 h6 hP o4 o3 o2 (fun k hk' => by rw [hk] at hk'; simp at hk')
  | succ d ih =>
    intro w P v t hn hP ho
    obtain ⟨A, c, K, ck, xs, rfl, h2, -, -, h5, h6⟩ := hn.open_
    obtain ⟨-, o2, o3, o4⟩ := ho.node (fun h => by omega)
    rw [bytes_eq (d + 1) t (fun h => by omega)]
    exact encode_step d _ w P t h2 h5 h6 hP o4 o3 o2 (fun k hk' X v hv hX => ih X P v k hv (fun b h => Nat.lt_of_lt_of_le (hP b h) hX) (ho.kid hk'))
/-- BYTES of the reference, of any valid tree in memory -/
theorem refbytes_any : ∀ (d : Nat) (w : World) (P : Nat → Prop) (v : Value) (t : T), NodeR d w P v t → (∀ b, P b → b < w.heap.size) → EncOk d t →
    Calls Try.prog 25 #[v] w (OwnR w (bytesT d t)) := by
  intro d
  induction d with
  | zero =>
    intro w P v t hn hP ho
    obtain ⟨A, c, K, ck, xs, rfl, h2, -, -, h5, h6⟩ := hn.open_
    have hk := hn.leaf_kids
    obtain ⟨-, o2, o3, o4⟩ := ho.node (fun _ => hk)
    rw [bytes_eq 0 t (fun _ => hk)]
    exact bytesr_step (0 - 1) _ w P t h2 h5 h6 hP o4 o3 o2 (fun k hk' => by rw [hk] at hk'; simp at hk')
  | succ d ih =>
    intro w P v t hn hP ho
    obtain ⟨A, c, K, ck, xs, rfl, h2, -, -, h5, h6⟩ := hn.open_
    obtain ⟨-, o2, o3, o4⟩ := ho.node (fun h => by omega)
    rw [bytes_eq (d + 1) t (fun h => by omega)]
    exact bytesr_step d _ w P t h2 h5 h6 hP o4 o3 o2 (fun k hk' X v hv hX => ih X P v k hv (fun b h => Nat.lt_of_lt_of_le (hP b h) hX) (ho.kid hk'))
end Go.Proofs.Ytoomdaljdbennaa.Tree
/- Walks: valid of the package tree (over slices.ContainsFunc with a closure). -/
namespace Go.Proofs.Ytoomdaljdbennaa.Tree
open Go.RowKit Kit Tlv

/-- validity within a depth -/
def validT : Nat → T → Bool
  | 0, _ => false
  | D + 1, t => nodeOk t && t.kids.all (validT D)
/-- the closure of valid, as a value -/
abbrev cloV (b : Nat) : Value := .func (.func 42) #[] #[.pointer (some ⟨b, 0, none⟩)]

set_option maxRecDepth 100000 in
set_option maxHeartbeats 4000000 in
theorem vclo_any (D d : Nat) (P : Nat → Prop) (k : T) (X : World) (v : Value) (b : Nat) (q : Bool) (hD : D ≤ 1000)
    (hb : X.heap[b]? = some (.cells #[.int .i64 ((D : Int) + 1)] 3 (0, 0))) (hn : NodeR d X P v k)
    (ih : ∀ Y : World, Below X.heap.size X Y → Calls Try.prog 32 #[v, .int .i64 (D : Int)] Y fun e w' => e = .returned (.bool q) ∧ Below Y.heap.size Y w') :
    Calls Try.prog 42 #[v, .pointer (some ⟨b, 0, none⟩)] X fun e w' => e = .returned (.bool (!q)) ∧ Below X.heap.size X w' := by
  obtain ⟨A, c, K, ck, rfl, -, -, -⟩ := hn.form
  clear hn
  obtain ⟨k1, k2, k3, kc, kk⟩ := k
  simp only [nodeV, T.cls, T.num, T.cons, T.con, T.kids] at *
  have hbl := Blk_lt hb
  have c0 : X.cell? ⟨b, 0, none⟩ = some (.int .i64 ((D : Int) + 1)) := by rw [cell_of_row X b _ _ _ _ hb]; rfl
  have IH := Lib.hid (ih (X.alloc (.cells #[.int .i64 k1, .int .i64 k2, .bool k3, .slice A kc.length c, .slice K kk.length ck] 26)) ((Below.refl _ _).alloc (Nat.le_refl _) _))
  have BE := Lib.hid (show Below X.heap.size X (X.alloc (.cells #[.int .i64 k1, .int .i64 k2, .bool k3, .slice A kc.length c, .slice K kk.length ck] 26)) from (Below.refl _ _).alloc (Nat.le_refl _) _)
  have hd1 : (D : Int) + 1 - 1 = (D : Int) := by omega
  clear ih hb
  go_enter Try.func42, Try.ntmps42
  go_wp2_with fail
  go_must (go_fit IH.out)
  rintro e w2 ⟨rfl, hb2⟩
  have BE2 := Lib.hid (two_belowK BE.out hb2 BE.out.size)
  clear IH hb2
  go_wp2
  go_ret
  exact ⟨rfl, BE2.out⟩

/-- where the loop of IndexFunc stands -/
def IdxL (f : T → Bool) (w : World) (ts : List T) (i : Value) (wr : World) : Prop :=
  ∃ k : Nat, i = .int .i64 (k : Int) ∧ k ≤ ts.length ∧ (ts.take k).all f = true ∧ Below w.heap.size w wr

set_option maxRecDepth 100000 in
set_option maxHeartbeats 4000000 in
theorem idx_any (d : Nat) (f : T → Bool) (w : World) (P : Nat → Prop) (ts : List T) {K : Option Addr} {ck : Nat} {xs : List Value} (b : Nat) (hcp : CellsP w P K xs) (hrow : RowR (NodeR d w P) ts xs)
    (hP : ∀ b, P b → b < w.heap.size) (hc : ts.length ≤ 1000000)
    (ih : ∀ k, k ∈ ts → ∀ (X : World) (v : Value), NodeR d X P v k → Below w.heap.size w X → Calls Try.prog 42 #[v, .pointer (some ⟨b, 0, none⟩)] X fun e w' => e = .returned (.bool (!(f k))) ∧ Below X.heap.size X w') :
    Calls Try.prog 49 #[.slice K ts.length ck, cloV b] w fun e w' => (∃ z : Int, e = .returned (.int .i64 z) ∧ (decide (z ≥ 0) = !(ts.all f))) ∧ Below w.heap.size w w' := by
  have HX := Lib.hid hcp
  have HY := Lib.hid hrow
  have IH := Lib.hid ih
  clear ih hcp hrow
  go_enter Try.func49, Try.ntmps49
  go_wp2_with fail
  go_loopw [8] (fun i wr => IdxL f w ts i wr) (fun i _ => ts.length - (intOf i).toNat)
  case atStart => exact ⟨0, rfl, Nat.zero_le _, by simp, Below.refl _ _⟩
  case round =>
    obtain ⟨k, rfl, hk, hal, hb⟩ := hrel
    have BE := Lib.hid hb
    have AL := Lib.hid hal
    clear hal
    by_cases hlt : k < ts.length
    · have hkz : (k : Int) < (ts.length : Int) := by omega
      have hit : ts[k]? = some ts[k] := List.getElem?_eq_getElem hlt
      have hmem : ts[k] ∈ ts := List.getElem_mem hlt
      have kp := Keeps.below hb hP
      obtain ⟨g, A1, c1, K2, ck2, hK, hg, x0, x1, x2, x3, x4, hnk⟩ := kid_full (HX.out.keep kp) (HY.out.imp (fun _ _ h => h.keep kp)) hit
      subst hK
      have YES := Lib.hid (fun h => all_more hlt AL.out h)
      have NO := Lib.hid (fun h => (all_not (f := f) hlt h))
      have IK := Lib.hid (IH.out _ hmem wr _ hnk hb)
      generalize hq : f ts[k] = q at *
      generalize ts[k] = t at *
      obtain ⟨k1, k2, k3, kc, kk⟩ := t
      simp only [T.cls, T.num, T.cons, T.con, T.kids] at x0 x1 x2 x3 x4 hnk IK
      have hgw := hP g.block hg
      clear hit hmem kp hnk hb IH AL hq
      cases q with
      | true =>
        go_wp2_with fail
        go_must (go_fit IK.out)
        rintro e w2 ⟨rfl, hb2⟩
        have BE2 := Lib.hid (two_belowK BE.out hb2 BE.out.size)
        clear hb2 IK x0 x1 x2 x3 x4
        have RL : Hid (IdxL f w ts (.int .i64 ((k : Int) + 1)) w2) := Lib.hid ⟨k + 1, by rw [Int.natCast_add]; rfl, by omega, YES.out (by simp), BE2.out⟩
        go_wp2
        go_roundw
        case rel => exact RL.out
        case measure => simp [intOf]; omega
      | false =>
        have E : ts.all f = false := NO.out (by simp)
        have E2 := Lib.hid E
        clear E YES NO
        go_wp2_with fail
        go_must (go_fit IK.out)
        rintro e w2 ⟨rfl, hb2⟩
        have BE2 := Lib.hid (two_belowK BE.out hb2 BE.out.size)
        clear hb2 IK x0 x1 x2 x3 x4
        go_wp2
        go_ret
        exact ⟨⟨_, rfl, by rw [E2.out]; simp⟩, BE2.out⟩
    · obtain rfl : k = ts.length := by omega
      have E := AL.out
      rw [List.take_length] at E
      have E2 := Lib.hid E
      clear HX HY IH E AL
      go_wp2
      go_ret
      exact ⟨⟨_, rfl, by rw [E2.out]; simp⟩, BE.out⟩
theorem cont_any (d : Nat) (f : T → Bool) (w : World) (P : Nat → Prop) (ts : List T) {K : Option Addr} {ck : Nat} {xs : List Value} (b : Nat) (hcp : CellsP w P K xs) (hrow : RowR (NodeR d w P) ts xs)
    (hP : ∀ b, P b → b < w.heap.size) (hc : ts.length ≤ 1000000)
    (ih : ∀ k, k ∈ ts → ∀ (X : World) (v : Value), NodeR d X P v k → Below w.heap.size w X → Calls Try.prog 42 #[v, .pointer (some ⟨b, 0, none⟩)] X fun e w' => e = .returned (.bool (!(f k))) ∧ Below X.heap.size X w') :
    Calls Try.prog 41 #[.slice K ts.length ck, cloV b] w fun e w' => e = .returned (.bool (!(ts.all f))) ∧ Below w.heap.size w w' := by
  have IX := Lib.hid (idx_any d f w P ts (ck := ck) b hcp hrow hP hc ih)
  generalize ts.all f = q at *
  clear ih hcp hrow
  go_enter Try.func41, Try.ntmps41
  go_wp2_with fail
  go_must (go_fit IX.out)
  rintro e w2 ⟨⟨z, rfl, hz⟩, hb2⟩
  have HB := Lib.hid hb2
  have HZ := Lib.hid hz
  clear IX hb2 hz
  go_wp2
  go_ret
  refine ⟨?_, HB.out⟩
  rw [← HZ.out]
  rfl

set_option maxRecDepth 100000 in
set_option maxHeartbeats 4000000 in
theorem valid_bad {A6 K6 : Option Addr} {c6 ck6 : Nat} (w : World) (t : T) (D : Nat) (hno : nodeOk t = false) :
    Calls Try.prog 32 #[nodeV t A6 c6 K6 ck6, .int .i64 (D : Int)] w fun e w' => e = .returned (.bool false) ∧ Below w.heap.size w w' := by
  have h3 := nodeOk_no hno
  clear hno
  obtain ⟨g1, g2, g3, gc, gk⟩ := t
  simp only [nodeV, T.cls, T.num, T.cons, T.con, T.kids] at h3 ⊢
  have ID := Lib.hid (fun w => ident_any g1 g2 g3 w)
  generalize idCode g1 g2 = ic at *
  generalize idByte g1 g3 g2 = ib at *
  by_cases hD : (D : Int) = 0
  · by_cases hi : ic = 0
    · clear h3
      subst hi
      go_enter Try.func32, Try.ntmps32
      go_wp2_with (first | (go_at_call 40; go_must (go_fit (ID.out _)); rintro e w1 ⟨rfl, rfl⟩))
      go_ret
      exact ⟨rfl, (by repeat' (first | (with_reducible exact Below.refl _ _) | (with_reducible assumption) | (with_reducible refine below_drewN ?_ _) | (with_reducible refine Below.drew ?_) | (with_reducible refine Below.alloc ?_ ?_ _) | (with_reducible refine Below.setCell ?_ ?_ _) | go_size))⟩
    · clear h3
      go_enter Try.func32, Try.ntmps32
      go_wp2_with (first | (go_at_call 40; go_must (go_fit (ID.out _)); rintro e w1 ⟨rfl, rfl⟩))
      go_ret
      exact ⟨rfl, (by repeat' (first | (with_reducible exact Below.refl _ _) | (with_reducible assumption) | (with_reducible refine below_drewN ?_ _) | (with_reducible refine Below.drew ?_) | (with_reducible refine Below.alloc ?_ ?_ _) | (with_reducible refine Below.setCell ?_ ?_ _) | go_size))⟩
  · by_cases hi : ic = 0
    · rcases h3 with h | ⟨rfl, h⟩ | ⟨rfl, h⟩
      · exact absurd hi h
      · have hz : (0 : Int) < (gc.length : Int) := by omega
        subst hi
        go_enter Try.func32, Try.ntmps32
        go_wp2_with (first | (go_at_call 40; go_must (go_fit (ID.out _)); rintro e w1 ⟨rfl, rfl⟩))
        go_ret
        exact ⟨rfl, (by repeat' (first | (with_reducible exact Below.refl _ _) | (with_reducible assumption) | (with_reducible refine below_drewN ?_ _) | (with_reducible refine Below.drew ?_) | (with_reducible refine Below.alloc ?_ ?_ _) | (with_reducible refine Below.setCell ?_ ?_ _) | go_size))⟩
      · have hz : (0 : Int) < (gk.length : Int) := by omega
        subst hi
        go_enter Try.func32, Try.ntmps32
        go_wp2_with (first | (go_at_call 40; go_must (go_fit (ID.out _)); rintro e w1 ⟨rfl, rfl⟩))
        go_ret
        exact ⟨rfl, (by repeat' (first | (with_reducible exact Below.refl _ _) | (with_reducible assumption) | (with_reducible refine below_drewN ?_ _) | (with_reducible refine Below.drew ?_) | (with_reducible refine Below.alloc ?_ ?_ _) | (with_reducible refine Below.setCell ?_ ?_ _) | go_size))⟩
    · clear h3
      go_enter Try.func32, Try.ntmps32
      go_wp2_with (first | (go_at_call 40; go_must (go_fit (ID.out _)); rintro e w1 ⟨rfl, rfl⟩))
      go_ret
      exact ⟨rfl, (by repeat' (first | (with_reducible exact Below.refl _ _) | (with_reducible assumption) | (with_reducible refine below_drewN ?_ _) | (with_reducible refine Below.drew ?_) | (with_reducible refine Below.alloc ?_ ?_ _) | (with_reducible refine Below.setCell ?_ ?_ _) | go_size))⟩

set_option maxRecDepth 100000 in
set_option maxHeartbeats 4000000 in
theorem valid_none {A6 K6 : Option Addr} {c6 ck6 : Nat} (w : World) (t : T) :
    Calls Try.prog 32 #[nodeV t A6 c6 K6 ck6, .int .i64 0] w fun e w' => e = .returned (.bool false) ∧ Below w.heap.size w w' := by
  obtain ⟨g1, g2, g3, gc, gk⟩ := t
  simp only [nodeV, T.cls, T.num, T.cons, T.con, T.kids]
  have ID := Lib.hid (fun w => ident_any g1 g2 g3 w)
  generalize idCode g1 g2 = ic at *
  generalize idByte g1 g3 g2 = ib at *
  by_cases hi : ic = 0
  · subst hi
    go_enter Try.func32, Try.ntmps32
    go_wp2_with (first | (go_at_call 40; go_must (go_fit (ID.out _)); rintro e w1 ⟨rfl, rfl⟩))
    go_ret
    exact ⟨rfl, (by repeat' (first | (with_reducible exact Below.refl _ _) | (with_reducible assumption) | (with_reducible refine below_drewN ?_ _) | (with_reducible refine Below.drew ?_) | (with_reducible refine Below.alloc ?_ ?_ _) | (with_reducible refine Below.setCell ?_ ?_ _) | go_size))⟩
  · go_enter Try.func32, Try.ntmps32
    go_wp2_with (first | (go_at_call 40; go_must (go_fit (ID.out _)); rintro e w1 ⟨rfl, rfl⟩))
    go_ret
    exact ⟨rfl, (by repeat' (first | (with_reducible exact Below.refl _ _) | (with_reducible assumption) | (with_reducible refine below_drewN ?_ _) | (with_reducible refine Below.drew ?_) | (with_reducible refine Below.alloc ?_ ?_ _) | (with_reducible refine Below.setCell ?_ ?_ _) | go_size))⟩

set_option maxRecDepth 100000 in
set_option maxHeartbeats 4000000 in
theorem valid_step (d D : Nat) (f : T → Bool) (w : World) (P : Nat → Prop) (t : T) {A6 K6 : Option Addr} {c6 ck6 : Nat} {xs : List Value} (hcp : CellsP w P K6 xs) (hrow : RowR (NodeR d w P) t.kids xs)
    (hP : ∀ b, P b → b < w.heap.size) (hc : t.kids.length ≤ 1000000) (hok : nodeOk t = true) (hD : D ≤ 1000)
    (ih : ∀ k, k ∈ t.kids → ∀ (X : World) (v : Value), NodeR d X P v k → w.heap.size ≤ X.heap.size → Calls Try.prog 32 #[v, .int .i64 (D : Int)] X fun e w' => e = .returned (.bool (f k)) ∧ Below X.heap.size X w') :
    Calls Try.prog 32 #[nodeV t A6 c6 K6 ck6, .int .i64 ((D : Int) + 1)] w fun e w' => e = .returned (.bool (t.kids.all f)) ∧ Below w.heap.size w w' := by
  obtain ⟨o1, o2, o3⟩ := nodeOk_iff.1 hok
  clear hok
  obtain ⟨g1, g2, g3, gc, gk⟩ := t
  simp only [nodeV, T.cls, T.num, T.cons, T.con, T.kids] at *
  have ID := Lib.hid (fun w => ident_any g1 g2 g3 w)
  rw [o1] at ID
  have t0 : ((w.alloc (.cells #[.int .i64 g1, .int .i64 g2, .bool g3, .slice A6 gc.length c6, .slice K6 gk.length ck6] 26)).alloc (.cells #[.int .i64 ((D : Int) + 1)] 3)).heap[w.heap.size]? = _ := bk_old (bk_new rfl)
  have t1 : ((w.alloc (.cells #[.int .i64 g1, .int .i64 g2, .bool g3, .slice A6 gc.length c6, .slice K6 gk.length ck6] 26)).alloc (.cells #[.int .i64 ((D : Int) + 1)] 3)).heap[w.heap.size + 1]? = _ := bk_new (by simp)
  have bel : Below w.heap.size w ((w.alloc (.cells #[.int .i64 g1, .int .i64 g2, .bool g3, .slice A6 gc.length c6, .slice K6 gk.length ck6] 26)).alloc (.cells #[.int .i64 ((D : Int) + 1)] 3)) := (by repeat' (first | (with_reducible exact Below.refl _ _) | (with_reducible assumption) | (with_reducible refine below_drewN ?_ _) | (with_reducible refine Below.drew ?_) | (with_reducible refine Below.alloc ?_ ?_ _) | (with_reducible refine Below.setCell ?_ ?_ _) | go_size))
  have CT := Lib.hid (fun (Y : World) (hw : Below w.heap.size w Y) (hy : Y.heap[w.heap.size + 1]? = some (.cells #[.int .i64 ((D : Int) + 1)] 3 (0, 0))) =>
    cont_any d f Y P gk (ck := ck6) (w.heap.size + 1) (hcp.keep (Keeps.below hw hP)) (hrow.imp (fun _ _ h => h.keep (Keeps.below hw hP))) (fun b h => Nat.lt_of_lt_of_le (hP b h) hw.size) hc
      (fun k hk X v hn hb => vclo_any D d P k X v (w.heap.size + 1) (f k) hD ((hb.block _ (Blk_lt hy)).trans hy) hn
        (fun Z hZ => ih k hk Z v (hn.keep (Keeps.below hZ (fun b h => Nat.lt_of_lt_of_le (hP b h) (Nat.le_trans hw.size hb.size)))) (Nat.le_trans hw.size (Nat.le_trans hb.size hZ.size)))))
  have hb3 : (g3 = true ∧ (gc.length : Int) = 0) ∨ (g3 = false ∧ (gk.length : Int) = 0) := by
    cases g3
    · exact .inr ⟨rfl, by rw [o3 rfl]; rfl⟩
    · exact .inl ⟨rfl, by rw [o2 rfl]; rfl⟩
  generalize idByte g1 g3 g2 = ib at *
  generalize gk.all f = R at *
  have hne : ¬ ((D : Int) + 1 = 0) := by omega
  have T0 := Lib.hid t0
  have T1 := Lib.hid t1
  have BE := Lib.hid bel
  clear ih hcp hrow o1 o2 o3 t0 t1 bel
  rcases hb3 with ⟨rfl, h0⟩ | ⟨rfl, h0⟩
  · generalize gc.length = gl at *
    obtain rfl : gl = 0 := by omega
    clear h0
    go_enter Try.func32, Try.ntmps32
    go_wp2_with (first | (go_at_call 40; go_must (go_fit (ID.out _)); rintro e w1 ⟨rfl, rfl⟩) | (go_at_call 41; go_must (go_fit (CT.out _ BE.out T1.out)); rintro e w2 ⟨rfl, hb2⟩; have BE2 := Lib.hid (two_belowK BE.out hb2 BE.out.size); clear hb2))
    go_ret
    refine ⟨?_, BE2.out⟩
    simp
  · generalize hgl : gk.length = gl at *
    obtain rfl : gl = 0 := by omega
    clear h0
    go_enter Try.func32, Try.ntmps32
    go_wp2_with (first | (go_at_call 40; go_must (go_fit (ID.out _)); rintro e w1 ⟨rfl, rfl⟩) | (go_at_call 41; go_must (go_fit (CT.out _ BE.out T1.out)); rintro e w2 ⟨rfl, hb2⟩; have BE2 := Lib.hid (two_belowK BE.out hb2 BE.out.size); clear hb2))
    go_ret
    refine ⟨?_, BE2.out⟩
    simp
/-- VALID within a depth, of any tree in memory -/
theorem valid_any : ∀ (D d : Nat) (w : World) (P : Nat → Prop) (v : Value) (t : T), D ≤ 1000 → NodeR d w P v t → (∀ b, P b → b < w.heap.size) → countT d t ≤ 1000000 →
    Calls Try.prog 32 #[v, .int .i64 (D : Int)] w fun e w' => e = .returned (.bool (validT D t)) ∧ Below w.heap.size w w' := by
  intro D
  induction D with
  | zero =>
    intro d w P v t _ hn hP hc
    obtain ⟨A, c, K, ck, rfl, -, -, -⟩ := hn.form
    exact valid_none w t
  | succ D ih =>
    intro d w P v t hD hn hP hc
    obtain ⟨A, c, K, ck, xs, rfl, -, -, -, h5, h6⟩ := hn.open_
    have hk0 : d = 0 → t.kids = [] := fun h => by subst h; exact hn.leaf_kids
    have e : validT (D + 1) t = (nodeOk t && t.kids.all (validT D)) := rfl
    rw [e]
    cases ho : nodeOk t with
    | false => simpa using valid_bad w t (D + 1) ho
    | true =>
      rw [Bool.true_and, Int.natCast_add]
      have hkl : t.kids.length ≤ 1000000 := by
        cases d with
        | zero => rw [hk0 rfl]; simp
        | succ d => have := count_kids (d := d) (t := t); omega
      refine valid_step (d - 1) D _ w P t h5 h6 hP hkl ho (by omega) (fun k hk' X v hv hX => ih (d - 1) X P v k (by omega) hv (fun b h => Nat.lt_of_lt_of_le (hP b h) hX) ?_)
      cases d with
      | zero => rw [hk0 rfl] at hk'; simp at hk'
      | succ d => have := count_kid (d := d) hk'; simp only [Nat.add_sub_cancel]; omega
end Go.Proofs.Ytoomdaljdbennaa.Tree
/- Walks: Valid and Encode, of the package tree and of the reference. -/
namespace Go.Proofs.Ytoomdaljdbennaa.Tree
open Go.RowKit Kit Tlv

theorem row_mem {N : Value → T → Prop} : ∀ {ts : List T} {xs : List Value} {k : T}, RowR N ts xs → k ∈ ts → ∃ v, N v k
  | t :: ts, xs, k, h, hk => by
    obtain ⟨x0, x1, x2, x3, x4, ys, -, h2, h3⟩ := h
    rcases List.mem_cons.1 hk with rfl | hk
    · exact ⟨_, h2⟩
    · exact row_mem h3 hk
theorem NodeR.fits {w : World} {P : Nat → Prop} : ∀ {d : Nat} {v : Value} {t : T}, NodeR d w P v t → Fits d t
  | 0, v, t, h => h.leaf_kids
  | d + 1, v, t, h => by
    obtain ⟨A, c, K, ck, xs, -, -, -, -, -, h6⟩ := h
    intro k hk
    obtain ⟨v', hv⟩ := row_mem h6 hk
    exact NodeR.fits hv
theorem depth_pos (d : Nat) (t : T) : 1 ≤ depthT d t := by cases d <;> simp [depthT]
/-- validity within a depth is shape and depth -/
theorem valid_eq : ∀ (D d : Nat) (t : T), Fits d t → validT D t = (shapedT d t && decide (depthT d t ≤ D)) := by
  intro D
  induction D with
  | zero =>
    intro d t _
    have := depth_pos d t
    rw [show decide (depthT d t ≤ 0) = false from by simp; omega, Bool.and_false]
    rfl
  | succ D ih =>
    intro d t hf
    cases d with
    | zero =>
      have hk : t.kids = [] := hf
      simp [validT, shapedT, depthT, hk]
    | succ d =>
      have hall : t.kids.all (validT D) = (t.kids.all (shapedT d) && decide (maxL (t.kids.map (depthT d)) ≤ D)) := by
        rw [Bool.eq_iff_iff, Bool.and_eq_true, List.all_eq_true, List.all_eq_true, decide_eq_true_eq, maxL_le]
        constructor
        · intro h
          have h2 : ∀ k, k ∈ t.kids → shapedT d k = true ∧ depthT d k ≤ D := by
            intro k hk
            have h3 := h k hk
            rw [ih d k (hf k hk), Bool.and_eq_true, decide_eq_true_eq] at h3
            exact h3
          exact ⟨fun k hk => (h2 k hk).1, fun x hx => by obtain ⟨k, hk, rfl⟩ := List.mem_map.1 hx; exact (h2 k hk).2⟩
        · rintro ⟨h1, h2⟩ k hk
          rw [ih d k (hf k hk), Bool.and_eq_true, decide_eq_true_eq]
          exact ⟨h1 k hk, h2 _ (List.mem_map.2 ⟨k, hk, rfl⟩)⟩
      show (nodeOk t && t.kids.all (validT D)) = _
      rw [hall]
      have e : decide (depthT (d + 1) t ≤ D + 1) = decide (maxL (t.kids.map (depthT d)) ≤ D) := by
        rw [Bool.eq_iff_iff, decide_eq_true_eq, decide_eq_true_eq]
        simp only [depthT]
        omega
      rw [e]
      simp only [shapedT]
      rw [Bool.and_assoc]

set_option maxRecDepth 100000 in
set_option maxHeartbeats 4000000 in
theorem treevalid_any (d : Nat) (w : World) (P : Nat → Prop) (v : Value) (t : T) (hn : NodeR d w P v t) (hP : ∀ b, P b → b < w.heap.size) (hc : countT d t ≤ 1000000) :
    Calls Try.prog 19 #[v] w fun e w' => e = .returned (.bool (validT 16 t)) ∧ Below w.heap.size w w' := by
  obtain ⟨A6, c6, K6, ck6, rfl, -, -, -⟩ := hn.form
  have IH := Lib.hid (fun (X : World) (h : Below w.heap.size w X) => valid_any 16 d X P _ t (by decide) (hn.keep (Keeps.below h hP)) (fun b hb => Nat.lt_of_lt_of_le (hP b hb) h.size) hc)
  generalize validT 16 t = R at *
  clear hn hc
  obtain ⟨g1, g2, g3, gc, gk⟩ := t
  simp only [nodeV, T.cls, T.num, T.cons, T.con, T.kids] at *
  have BE := Lib.hid (show Below w.heap.size w (w.alloc (.cells #[.int .i64 g1, .int .i64 g2, .bool g3, .slice A6 gc.length c6, .slice K6 gk.length ck6] 26)) from (Below.refl _ _).alloc (Nat.le_refl _) _)
  have IK := Lib.hid (IH.out _ BE.out)
  clear IH
  go_enter Try.func19, Try.ntmps19
  go_wp2_with fail
  go_must (go_fit IK.out)
  rintro e w2 ⟨rfl, hb2⟩
  have BE2 := Lib.hid (two_belowK BE.out hb2 BE.out.size)
  clear IK hb2
  go_wp2
  go_ret
  exact ⟨rfl, BE2.out⟩
set_option maxRecDepth 100000 in
set_option maxHeartbeats 4000000 in
theorem refvalid_any (d : Nat) (w : World) (P : Nat → Prop) (v : Value) (t : T) (hn : NodeR d w P v t) (hP : ∀ b, P b → b < w.heap.size) (hc : countT d t ≤ 1000000) :
    Calls Try.prog 20 #[v] w fun e w' => e = .returned (.bool (validT 16 t)) ∧ Below w.heap.size w w' := by
  rw [valid_eq 16 d t hn.fits]
  obtain ⟨A6, c6, K6, ck6, rfl, -, -, -⟩ := hn.form
  have IH := Lib.hid (fun (X : World) (h : Below w.heap.size w X) => shaped_any d X P _ t (hn.keep (Keeps.below h hP)) (fun b hb => Nat.lt_of_lt_of_le (hP b hb) h.size) hc)
  have IH2 := Lib.hid (fun (X : World) (h : Below w.heap.size w X) => refdepth_any d X P _ t (hn.keep (Keeps.below h hP)) (fun b hb => Nat.lt_of_lt_of_le (hP b hb) h.size) hc)
  have hdc := depth_count d t
  generalize shapedT d t = R at *
  generalize depthT d t = m at *
  have hm : m ≤ 1000000 := by omega
  clear hn hc hdc
  obtain ⟨g1, g2, g3, gc, gk⟩ := t
  simp only [nodeV, T.cls, T.num, T.cons, T.con, T.kids] at *
  have BE := Lib.hid (show Below w.heap.size w (w.alloc (.cells #[.int .i64 g1, .int .i64 g2, .bool g3, .slice A6 gc.length c6, .slice K6 gk.length ck6] 26)) from (Below.refl _ _).alloc (Nat.le_refl _) _)
  have T1 := Lib.hid (show (w.alloc (.cells #[.int .i64 g1, .int .i64 g2, .bool g3, .slice A6 gc.length c6, .slice K6 gk.length ck6] 26)).heap[w.heap.size]? = some (.cells #[.int .i64 g1, .int .i64 g2, .bool g3, .slice A6 gc.length c6, .slice K6 gk.length ck6] 26 (0, 0)) from bk_new rfl)
  have IK := Lib.hid (IH.out _ BE.out)
  clear IH
  have E := Lib.hid (show decide ((m : Int) ≤ 16) = decide (m ≤ 16) from by congr 1; exact propext ⟨fun h => by omega, fun h => by omega⟩)
  cases R with
  | false =>
    go_enter Try.func20, Try.ntmps20
    go_wp2_with fail
    go_must (go_fit IK.out)
    rintro e w2 ⟨rfl, hb2⟩
    have BE2 := Lib.hid (two_belowK BE.out hb2 BE.out.size)
    clear IK IH2 hb2
    go_wp2
    go_ret
    exact ⟨by simp, BE2.out⟩
  | true =>
    go_enter Try.func20, Try.ntmps20
    go_wp2_with fail
    go_must (go_fit IK.out)
    rintro e w2 ⟨rfl, hb2⟩
    have BE2 := Lib.hid (two_belowK BE.out hb2 BE.out.size)
    have T2 := Lib.hid (stayK T1.out hb2)
    obtain ⟨u0, u1, u2, u3, u4⟩ := cells5 T2.out
    have IK2 := Lib.hid (IH2.out _ BE2.out)
    clear IK IH2 hb2
    go_wp2_with fail
    go_must (go_fit IK2.out)
    rintro e w3 ⟨rfl, hb3⟩
    have BE3 := Lib.hid (two_belowK BE2.out hb3 BE2.out.size)
    clear IK2 hb3 u0 u1 u2 u3 u4
    go_wp2
    go_ret
    refine ⟨?_, BE3.out⟩
    rw [Bool.true_and, ← E.out]
    rfl

/-- bytes of a call's own, with a code -/
def EncT (w : World) (l : List UInt8) (code : Int) (e : Ending) (w' : World) : Prop :=
  ∃ A c, e = .returned (.tuple #[.slice A l.length c, .int .i64 code]) ∧ Own w' w.heap.size A l.length c l ∧ Below w.heap.size w w'
/-- what Encode returns -/
def encB (d : Nat) (t : T) : List UInt8 := if validT 16 t = true then bytesT d t else []
def encC (t : T) : Int := if validT 16 t = true then 0 else 8
theorem EncT.bad {w w' : World} (hb : Below w.heap.size w w') : EncT w [] 8 (.returned (.tuple #[.slice none 0 0, .int .i64 8])) w' := ⟨none, 0, rfl, Own.none_ _ _, hb⟩
theorem EncT.good {w w' : World} {l : List UInt8} {A : Option Addr} {c : Nat} (ho : Own w' w.heap.size A l.length c l) (hb : Below w.heap.size w w') : EncT w l 0 (.returned (.tuple #[.slice A l.length c, .int .i64 0])) w' := ⟨A, c, rfl, ho, hb⟩

set_option maxRecDepth 100000 in
set_option maxHeartbeats 4000000 in
theorem treeencode_any (d : Nat) (w : World) (P : Nat → Prop) (v : Value) (t : T) (hn : NodeR d w P v t) (hP : ∀ b, P b → b < w.heap.size) (hc : countT d t ≤ 1000000) (hl : LensOk d t) (hb : (bytesT d t).length ≤ 100000000) :
    Calls Try.prog 16 #[v] w (EncT w (encB d t) (encC t)) := by
  have hve := valid_eq 16 d t hn.fits
  obtain ⟨A6, c6, K6, ck6, rfl, -, -, -⟩ := hn.form
  have IH := Lib.hid (fun (X : World) (h : Below w.heap.size w X) => treevalid_any d X P _ t (hn.keep (Keeps.below h hP)) (fun b hb => Nat.lt_of_lt_of_le (hP b hb) h.size) hc)
  have IH2 := Lib.hid (fun (ho : EncOk d t) (X : World) (h : Below w.heap.size w X) => treeenc_any d X P _ t (hn.keep (Keeps.below h hP)) (fun b hb => Nat.lt_of_lt_of_le (hP b hb) h.size) ho)
  have HOK := Lib.hid (fun (h : validT 16 t = true) => show EncOk d t from ⟨by rw [hve, Bool.and_eq_true] at h; exact h.1, hl, hc, hb⟩)
  unfold encB encC
  cases hR : validT 16 t with
  | false =>
    rw [hR] at IH
    clear IH2 HOK hve hn hc hl hb hR
    obtain ⟨g1, g2, g3, gc, gk⟩ := t
    simp only [nodeV, T.cls, T.num, T.cons, T.con, T.kids] at *
    have BE := Lib.hid (show Below w.heap.size w (w.alloc (.cells #[.int .i64 g1, .int .i64 g2, .bool g3, .slice A6 gc.length c6, .slice K6 gk.length ck6] 26)) from (Below.refl _ _).alloc (Nat.le_refl _) _)
    have IK := Lib.hid (IH.out _ BE.out)
    clear IH
    go_enter Try.func16, Try.ntmps16
    go_wp2_with fail
    go_must (go_fit IK.out)
    rintro e w2 ⟨rfl, hb2⟩
    have BE2 := Lib.hid (two_belowK BE.out hb2 BE.out.size)
    clear IK hb2
    go_wp2
    go_ret2
    exact EncT.bad BE2.out
  | true =>
    have ho := HOK.out hR
    rw [hR] at IH
    have IH3 := Lib.hid (IH2.out ho)
    generalize bytesT d t = L at *
    clear IH2 HOK hve hn hc hl hb hR ho
    obtain ⟨g1, g2, g3, gc, gk⟩ := t
    simp only [nodeV, T.cls, T.num, T.cons, T.con, T.kids, if_true] at *
    have BE := Lib.hid (show Below w.heap.size w (w.alloc (.cells #[.int .i64 g1, .int .i64 g2, .bool g3, .slice A6 gc.length c6, .slice K6 gk.length ck6] 26)) from (Below.refl _ _).alloc (Nat.le_refl _) _)
    have T1 := Lib.hid (show (w.alloc (.cells #[.int .i64 g1, .int .i64 g2, .bool g3, .slice A6 gc.length c6, .slice K6 gk.length ck6] 26)).heap[w.heap.size]? = some (.cells #[.int .i64 g1, .int .i64 g2, .bool g3, .slice A6 gc.length c6, .slice K6 gk.length ck6] 26 (0, 0)) from bk_new rfl)
    have IK := Lib.hid (IH.out _ BE.out)
    clear IH
    go_enter Try.func16, Try.ntmps16
    go_wp2_with fail
    go_must (go_fit IK.out)
    rintro e w2 ⟨rfl, hb2⟩
    have BE2 := Lib.hid (two_belowK BE.out hb2 BE.out.size)
    have T2 := Lib.hid (stayK T1.out hb2)
    obtain ⟨u0, u1, u2, u3, u4⟩ := cells5 T2.out
    have IK2 := Lib.hid (IH3.out _ BE2.out)
    clear IK IH3 hb2
    go_wp2_with fail
    go_must (go_fit IK2.out)
    rintro e w3 ⟨A3, c3, rfl, ho3, hb3⟩
    have FIN := Lib.hid (EncT.good (ho3.mono BE2.out.size) (two_belowK BE2.out hb3 BE2.out.size))
    clear IK2 hb3 ho3 u0 u1 u2 u3 u4
    go_wp2
    go_ret2
    exact FIN.out
set_option maxRecDepth 100000 in
set_option maxHeartbeats 4000000 in
theorem refencode_any (d : Nat) (w : World) (P : Nat → Prop) (v : Value) (t : T) (hn : NodeR d w P v t) (hP : ∀ b, P b → b < w.heap.size) (hc : countT d t ≤ 1000000) (hl : LensOk d t) (hb : (bytesT d t).length ≤ 100000000) :
    Calls Try.prog 17 #[v] w (EncT w (encB d t) (encC t)) := by
  have hve := valid_eq 16 d t hn.fits
  obtain ⟨A6, c6, K6, ck6, rfl, -, -, -⟩ := hn.form
  have IH := Lib.hid (fun (X : World) (h : Below w.heap.size w X) => refvalid_any d X P _ t (hn.keep (Keeps.below h hP)) (fun b hb => Nat.lt_of_lt_of_le (hP b hb) h.size) hc)
  have IH2 := Lib.hid (fun (ho : EncOk d t) (X : World) (h : Below w.heap.size w X) => refbytes_any d X P _ t (hn.keep (Keeps.below h hP)) (fun b hb => Nat.lt_of_lt_of_le (hP b hb) h.size) ho)
  have HOK := Lib.hid (fun (h : validT 16 t = true) => show EncOk d t from ⟨by rw [hve, Bool.and_eq_true] at h; exact h.1, hl, hc, hb⟩)
  unfold encB encC
  cases hR : validT 16 t with
  | false =>
    rw [hR] at IH
    clear IH2 HOK hve hn hc hl hb hR
    obtain ⟨g1, g2, g3, gc, gk⟩ := t
    simp only [nodeV, T.cls, T.num, T.cons, T.con, T.kids] at *
    have BE := Lib.hid (show Below w.heap.size w (w.alloc (.cells #[.int .i64 g1, .int .i64 g2, .bool g3, .slice A6 gc.length c6, .slice K6 gk.length ck6] 26)) from (Below.refl _ _).alloc (Nat.le_refl _) _)
    have IK := Lib.hid (IH.out _ BE.out)
    clear IH
    go_enter Try.func17, Try.ntmps17
    go_wp2_with fail
    go_must (go_fit IK.out)
    rintro e w2 ⟨rfl, hb2⟩
    have BE2 := Lib.hid (two_belowK BE.out hb2 BE.out.size)
    clear IK hb2
    go_wp2
    go_ret2
    exact EncT.bad BE2.out
  | true =>
    have ho := HOK.out hR
    rw [hR] at IH
    have IH3 := Lib.hid (IH2.out ho)
    generalize bytesT d t = L at *
    clear IH2 HOK hve hn hc hl hb hR ho
    obtain ⟨g1, g2, g3, gc, gk⟩ := t
    simp only [nodeV, T.cls, T.num, T.cons, T.con, T.kids, if_true] at *
    have BE := Lib.hid (show Below w.heap.size w (w.alloc (.cells #[.int .i64 g1, .int .i64 g2, .bool g3, .slice A6 gc.length c6, .slice K6 gk.length ck6] 26)) from (Below.refl _ _).alloc (Nat.le_refl _) _)
    have T1 := Lib.hid (show (w.alloc (.cells #[.int .i64 g1, .int .i64 g2, .bool g3, .slice A6 gc.length c6, .slice K6 gk.length ck6] 26)).heap[w.heap.size]? = some (.cells #[.int .i64 g1, .int .i64 g2, .bool g3, .slice A6 gc.length c6, .slice K6 gk.length ck6] 26 (0, 0)) from bk_new rfl)
    have IK := Lib.hid (IH.out _ BE.out)
    clear IH
    go_enter Try.func17, Try.ntmps17
    go_wp2_with fail
    go_must (go_fit IK.out)
    rintro e w2 ⟨rfl, hb2⟩
    have BE2 := Lib.hid (two_belowK BE.out hb2 BE.out.size)
    have T2 := Lib.hid (stayK T1.out hb2)
    obtain ⟨u0, u1, u2, u3, u4⟩ := cells5 T2.out
    have IK2 := Lib.hid (IH3.out _ BE2.out)
    clear IK IH3 hb2
    go_wp2_with fail
    go_must (go_fit IK2.out)
    rintro e w3 ⟨A3, c3, rfl, ho3, hb3⟩
    have FIN := Lib.hid (EncT.good (ho3.mono BE2.out.size) (two_belowK BE2.out hb3 BE2.out.size))
    clear IK2 hb3 ho3 u0 u1 u2 u3 u4
    go_wp2
    go_ret2
    exact FIN.out
end Go.Proofs.Ytoomdaljdbennaa.Tree
/- Walks: equality of trees (cretulabase.Node). -/
namespace Go.Proofs.Ytoomdaljdbennaa.Tree
open Go.RowKit Kit Tlv

/-- lists of trees, one by one -/
def eqK (f : T → T → Bool) : List T → List T → Bool
  | [], [] => true
  | x :: xs, y :: ys => f x y && eqK f xs ys
  | _, _ => false
def nodeEq (t u : T) : Bool := decide (t.cls = u.cls) && (decide (t.num = u.num) && (decide (t.cons = u.cons) && (Cur.eqB t.con u.con && decide (t.kids.length = u.kids.length))))
/-- equality of trees -/
def eqT : Nat → T → T → Bool
  | 0, t, u => nodeEq t u
  | d + 1, t, u => nodeEq t u && eqK (eqT d) t.kids u.kids
theorem nodeEq_iff {t u : T} : nodeEq t u = true ↔ t.cls = u.cls ∧ t.num = u.num ∧ t.cons = u.cons ∧ t.con = u.con ∧ t.kids.length = u.kids.length := by
  unfold nodeEq Cur.eqB
  simp only [Bool.and_eq_true, decide_eq_true_eq]
theorem eqT_eq (d : Nat) (t u : T) (h : d = 0 → t.kids = []) : eqT d t u = (nodeEq t u && eqK (eqT (d - 1)) t.kids u.kids) := by
  cases d with
  | zero =>
    show nodeEq t u = _
    rw [h rfl]
    cases hq : nodeEq t u with
    | false => rfl
    | true =>
      have := (nodeEq_iff.1 hq).2.2.2.2
      rw [h rfl] at this
      have hu : u.kids = [] := List.eq_nil_of_length_eq_zero this.symm
      rw [hu]; rfl
  | succ d => rfl
theorem eqK_iff {f : T → T → Bool} : ∀ {xs ys : List T}, (∀ x, x ∈ xs → ∀ y, f x y = true ↔ x = y) → (eqK f xs ys = true ↔ xs = ys)
  | [], [], _ => by simp [eqK]
  | [], y :: ys, _ => by simp [eqK]
  | x :: xs, [], _ => by simp [eqK]
  | x :: xs, y :: ys, h => by
    have h1 := h x (by simp) y
    have h2 := eqK_iff (xs := xs) (ys := ys) (fun z hz => h z (by simp [hz]))
    simp only [eqK, Bool.and_eq_true, h1, h2, List.cons.injEq]
/-- EQUALITY IS EQUALITY -/
theorem eqT_iff : ∀ {d : Nat} {t u : T}, Fits d t → (eqT d t u = true ↔ t = u) := by
  intro d
  induction d with
  | zero =>
    intro t u hf
    obtain ⟨c, n, b, con, kids⟩ := t
    obtain ⟨c2, n2, b2, con2, kids2⟩ := u
    have hk : kids = [] := hf
    subst hk
    show nodeEq _ _ = true ↔ _
    rw [nodeEq_iff]
    simp only [T.cls, T.num, T.cons, T.con, T.kids, T.mk.injEq, List.length_nil]
    constructor
    · rintro ⟨h1, h2, h3, h4, h5⟩; exact ⟨h1, h2, h3, h4, (List.eq_nil_of_length_eq_zero h5.symm).symm⟩
    · rintro ⟨h1, h2, h3, h4, h5⟩; exact ⟨h1, h2, h3, h4, by rw [← h5]; rfl⟩
  | succ d ih =>
    intro t u hf
    obtain ⟨c, n, b, con, kids⟩ := t
    obtain ⟨c2, n2, b2, con2, kids2⟩ := u
    have hk := eqK_iff (f := eqT d) (xs := kids) (ys := kids2) (fun x hx y => ih (hf x hx))
    show (nodeEq _ _ && eqK (eqT d) kids kids2) = true ↔ _
    rw [Bool.and_eq_true, nodeEq_iff, hk]
    simp only [T.cls, T.num, T.cons, T.con, T.kids, T.mk.injEq]
    constructor
    · rintro ⟨⟨h1, h2, h3, h4, _⟩, h5⟩; exact ⟨h1, h2, h3, h4, h5⟩
    · rintro ⟨h1, h2, h3, h4, h5⟩; exact ⟨⟨h1, h2, h3, h4, by rw [h5]⟩, h5⟩
theorem eqK_drop {f : T → T → Bool} {xs ys : List T} {k : Nat} (hx : k < xs.length) (hy : k < ys.length) : eqK f (xs.drop k) (ys.drop k) = (f xs[k] ys[k] && eqK f (xs.drop (k + 1)) (ys.drop (k + 1))) := by
  rw [List.drop_eq_getElem_cons hx, List.drop_eq_getElem_cons hy]; rfl

set_option maxRecDepth 100000 in
set_option maxHeartbeats 4000000 in
theorem node_bad (w : World) (P Q : Nat → Prop) (t u : T) {A K A2 K2 : Option Addr} {c ck c2 ck2 : Nat} (hr : RdP w P A t.con.length t.con) (hr2 : RdP w Q A2 u.con.length u.con)
    (hP : ∀ b, P b → b < w.heap.size) (hQ : ∀ b, Q b → b < w.heap.size) (hno : nodeEq t u = false) :
    Calls Try.prog 13 #[nodeV t A c K ck, nodeV u A2 c2 K2 ck2] w fun e w' => e = .returned (.bool false) ∧ Below w.heap.size w w' := by
  have hn : ¬ (nodeEq t u = true) := by rw [hno]; simp
  rw [nodeEq_iff] at hn
  obtain ⟨g1, g2, g3, gc, gk⟩ := t
  obtain ⟨k1, k2, k3, kc, kk⟩ := u
  simp only [nodeV, T.cls, T.num, T.cons, T.con, T.kids] at *
  have R1 := Lib.hid (hr.rd hP)
  have R2 := Lib.hid (hr2.rd hQ)
  have EB := Lib.hid (fun (X : World) (h : Below w.heap.size w X) => Cur.bytes_any A A2 gc.length c kc.length c2 gc kc X (R1.out.below h) (R2.out.below h))
  have e5 : (gc = kc) → (Cur.eqB gc kc = true) := fun h => by simp [Cur.eqB, h]
  have e6 : ¬ (gc = kc) → (Cur.eqB gc kc = false) := fun h => by simp [Cur.eqB, h]
  clear hr hr2 R1 R2 hno
  by_cases h1 : g1 = k1
  · by_cases h2 : g2 = k2
    · by_cases h3 : g3 = k3
      · by_cases h4 : gc = kc
        · have h5 : ¬ ((gk.length : Int) = (kk.length : Int)) := fun h => hn ⟨h1, h2, h3, h4, by omega⟩
          have e := e5 h4
          clear hn e5 e6 h4
          generalize Cur.eqB gc kc = q at *
          subst h1 h2 h3 e
          go_enter Try.func13, Try.ntmps13
          go_wp2_with (first | (go_at_call 18; go_must (go_fit (EB.out _ (((Below.refl _ _).alloc (Nat.le_refl _) _).alloc (by simp) _))); rintro e w1 ⟨rfl, rfl⟩))
          go_ret
          exact ⟨rfl, (by repeat' (first | (with_reducible exact Below.refl _ _) | (with_reducible assumption) | (with_reducible refine below_drewN ?_ _) | (with_reducible refine Below.drew ?_) | (with_reducible refine Below.alloc ?_ ?_ _) | (with_reducible refine Below.setCell ?_ ?_ _) | go_size))⟩
        · have e := e6 h4
          clear hn e5 e6 h4
          generalize Cur.eqB gc kc = q at *
          subst h1 h2 h3 e
          go_enter Try.func13, Try.ntmps13
          go_wp2_with (first | (go_at_call 18; go_must (go_fit (EB.out _ (((Below.refl _ _).alloc (Nat.le_refl _) _).alloc (by simp) _))); rintro e w1 ⟨rfl, rfl⟩))
          go_ret
          exact ⟨rfl, (by repeat' (first | (with_reducible exact Below.refl _ _) | (with_reducible assumption) | (with_reducible refine below_drewN ?_ _) | (with_reducible refine Below.drew ?_) | (with_reducible refine Below.alloc ?_ ?_ _) | (with_reducible refine Below.setCell ?_ ?_ _) | go_size))⟩
      · have h3' : (g3 != k3) = true := by cases g3 <;> cases k3 <;> simp_all
        have h3'' : (g3 == k3) = false := by cases g3 <;> cases k3 <;> simp_all
        clear hn e5 e6
        subst h1 h2
        cases g3 <;> cases k3 <;> first | exact absurd rfl h3 | skip
        all_goals
          clear h3 h3' h3''
          go_enter Try.func13, Try.ntmps13
          go_wp2
          go_ret
          exact ⟨rfl, (by repeat' (first | (with_reducible exact Below.refl _ _) | (with_reducible assumption) | (with_reducible refine below_drewN ?_ _) | (with_reducible refine Below.drew ?_) | (with_reducible refine Below.alloc ?_ ?_ _) | (with_reducible refine Below.setCell ?_ ?_ _) | go_size))⟩
    · clear hn e5 e6
      subst h1
      go_enter Try.func13, Try.ntmps13
      go_wp2
      go_ret
      exact ⟨rfl, (by repeat' (first | (with_reducible exact Below.refl _ _) | (with_reducible assumption) | (with_reducible refine below_drewN ?_ _) | (with_reducible refine Below.drew ?_) | (with_reducible refine Below.alloc ?_ ?_ _) | (with_reducible refine Below.setCell ?_ ?_ _) | go_size))⟩
  · clear hn e5 e6
    go_enter Try.func13, Try.ntmps13
    go_wp2
    go_ret
    exact ⟨rfl, (by repeat' (first | (with_reducible exact Below.refl _ _) | (with_reducible assumption) | (with_reducible refine below_drewN ?_ _) | (with_reducible refine Below.drew ?_) | (with_reducible refine Below.alloc ?_ ?_ _) | (with_reducible refine Below.setCell ?_ ?_ _) | go_size))⟩

/-- where the loop of Node stands -/
def NodL (f : T → T → Bool) (R : Bool) (w : World) (N M : Array Value) (gk kk : List T) (i : Value) (wr : World) : Prop :=
  ∃ k : Nat, i = .int .i64 (k : Int) ∧ k ≤ gk.length ∧ eqK f (gk.drop k) (kk.drop k) = R ∧ wr.heap[w.heap.size]? = some (.cells N 26 (0, 0)) ∧ wr.heap[w.heap.size + 1]? = some (.cells M 26 (0, 0)) ∧ Below w.heap.size w wr

set_option maxRecDepth 100000 in
set_option maxHeartbeats 8000000 in
theorem node_step (d e : Nat) (f : T → T → Bool) (w : World) (P Q : Nat → Prop) (t u : T) {A K A2 K2 : Option Addr} {c ck c2 ck2 : Nat} {xs ys : List Value} (hr : RdP w P A t.con.length t.con) (hr2 : RdP w Q A2 u.con.length u.con)
    (hcp : CellsP w P K xs) (hrow : RowR (NodeR d w P) t.kids xs) (hcp2 : CellsP w Q K2 ys) (hrow2 : RowR (NodeR e w Q) u.kids ys)
    (hP : ∀ b, P b → b < w.heap.size) (hQ : ∀ b, Q b → b < w.heap.size) (hc : t.kids.length ≤ 1000000) (hok : nodeEq t u = true)
    (ih : ∀ k, k ∈ t.kids → ∀ (X : World) (v v2 : Value) (m : T), NodeR d X P v k → NodeR e X Q v2 m → w.heap.size ≤ X.heap.size → Calls Try.prog 13 #[v, v2] X fun e w' => e = .returned (.bool (f k m)) ∧ Below X.heap.size X w') :
    Calls Try.prog 13 #[nodeV t A c K ck, nodeV u A2 c2 K2 ck2] w fun e w' => e = .returned (.bool (eqK f t.kids u.kids)) ∧ Below w.heap.size w w' := by
  obtain ⟨o1, o2, o3, o4, o5⟩ := nodeEq_iff.1 hok
  clear hok
  obtain ⟨g1, g2, g3, gc, gk⟩ := t
  obtain ⟨k1, k2, k3, kc, kk⟩ := u
  simp only [nodeV, T.cls, T.num, T.cons, T.con, T.kids] at *
  have HX := Lib.hid hcp
  have HY := Lib.hid hrow
  have HX2 := Lib.hid hcp2
  have HY2 := Lib.hid hrow2
  have IH := Lib.hid ih
  have R1 := Lib.hid (hr.rd hP)
  have R2 := Lib.hid (hr2.rd hQ)
  have EB := Lib.hid (fun (X : World) (h : Below w.heap.size w X) => Cur.bytes_any A A2 gc.length c kc.length c2 gc kc X (R1.out.below h) (R2.out.below h))
  rw [show Cur.eqB gc kc = true from by simp [Cur.eqB, o4]] at EB
  obtain ⟨R, hR⟩ : ∃ R, eqK f gk kk = R := ⟨_, rfl⟩
  have HR := Lib.hid hR
  rw [hR]
  have hkl : (gk.length : Int) = (kk.length : Int) := by omega
  clear hR ih hcp hrow hcp2 hrow2 hr hr2 R1 R2
  subst o1 o2 o3
  have HO := Lib.hid o5
  clear o5 o4
  have START : Hid (∀ X : World, X.heap[w.heap.size]? = some (.cells #[.int .i64 g1, .int .i64 g2, .bool g3, .slice A gc.length c, .slice K gk.length ck] 26 (0, 0)) → X.heap[w.heap.size + 1]? = some (.cells #[.int .i64 g1, .int .i64 g2, .bool g3, .slice A2 kc.length c2, .slice K2 kk.length ck2] 26 (0, 0)) → Below w.heap.size w X →
      NodL f R w #[.int .i64 g1, .int .i64 g2, .bool g3, .slice A gc.length c, .slice K gk.length ck] #[.int .i64 g1, .int .i64 g2, .bool g3, .slice A2 kc.length c2, .slice K2 kk.length ck2] gk kk (.int .i64 0) X) :=
    Lib.hid (fun X h1 h2 h3 => ⟨0, rfl, Nat.zero_le _, HR.out, h1, h2, h3⟩)
  go_enter Try.func13, Try.ntmps13
  go_wp2_with (first | (go_at_call 18; go_must (go_fit (EB.out _ (((Below.refl _ _).alloc (Nat.le_refl _) _).alloc (by simp) _))); rintro e w1 ⟨rfl, rfl⟩))
  go_loopw [5] (fun i wr => NodL f R w _ _ gk kk i wr) (fun i _ => gk.length - (intOf i).toNat)
  case atStart => exact START.out _ (bk_old (bk_new rfl)) (bk_new (by simp)) (by repeat' (first | (with_reducible exact Below.refl _ _) | (with_reducible assumption) | (with_reducible refine below_drewN ?_ _) | (with_reducible refine Below.drew ?_) | (with_reducible refine Below.alloc ?_ ?_ _) | (with_reducible refine Below.setCell ?_ ?_ _) | go_size))
  case round =>
    obtain ⟨k, rfl, hk, hal, h1, h2, hb⟩ := hrel
    have T1 := Lib.hid h1
    have T2 := Lib.hid h2
    have BE := Lib.hid hb
    have AL := Lib.hid hal
    obtain ⟨u0, u1, u2, u3, u4⟩ := cells5 h1
    obtain ⟨v0, v1, v2, v3, v4⟩ := cells5 h2
    clear h1 h2 hal START HR
    by_cases hlt : k < gk.length
    · have hlt2 : k < kk.length := by have := HO.out; omega
      have hkz : (k : Int) < (gk.length : Int) := by omega
      have hkz2 : (k : Int) < (kk.length : Int) := by omega
      have hit : gk[k]? = some gk[k] := List.getElem?_eq_getElem hlt
      have hit2 : kk[k]? = some kk[k] := List.getElem?_eq_getElem hlt2
      have hmem : gk[k] ∈ gk := List.getElem_mem hlt
      have kp := Keeps.below hb hP
      have kq := Keeps.below hb hQ
      obtain ⟨g, A1, c1, K1, ck1, hK, hg, x0, x1, x2, x3, x4, hnk⟩ := kid_full (HX.out.keep kp) (HY.out.imp (fun _ _ h => h.keep kp)) hit
      obtain ⟨h, A3, c3, K3, ck3, hK2, hh, y0, y1, y2, y3, y4, hnk2⟩ := kid_full (HX2.out.keep kq) (HY2.out.imp (fun _ _ h => h.keep kq)) hit2
      subst hK hK2
      have STEP : Hid ((f gk[k] kk[k] && eqK f (gk.drop (k + 1)) (kk.drop (k + 1))) = R) := Lib.hid (by rw [← eqK_drop hlt hlt2]; exact AL.out)
      have IK := Lib.hid (fun (dd : Nat) (os : Array Obj) => IH.out _ hmem (Go.Sort.grow (redrawn wr dd) os) _ _ _ (hnk.keep (Keeps.below (below_regrown wr dd os) (fun b h => Nat.lt_of_lt_of_le (hP b h) hb.size))) (hnk2.keep (Keeps.below (below_regrown wr dd os) (fun b h => Nat.lt_of_lt_of_le (hQ b h) hb.size))) (Nat.le_trans hb.size (below_regrown wr dd os).size))
      have hgw := hP g.block hg
      have hhw := hQ h.block hh
      clear hnk hnk2
      generalize f gk[k] kk[k] = q at *
      generalize gk[k] = t at *
      generalize kk[k] = u at *
      obtain ⟨k1, k2, k3, kc', kk'⟩ := t
      obtain ⟨l1, l2, l3, lc, lk⟩ := u
      simp only [T.cls, T.num, T.cons, T.con, T.kids] at x0 x1 x2 x3 x4 y0 y1 y2 y3 y4 IK
      clear hit hit2 hmem kp kq hb IH AL EB
      have p0 := cell_regrown u4
      have p1 := cell_regrown v4
      have a0 := cell_regrown x0
      have a1 := cell_regrown x1
      have a2 := cell_regrown x2
      have a3 := cell_regrown x3
      have a4 := cell_regrown x4
      have b0 := cell_regrown y0
      have b1 := cell_regrown y1
      have b2 := cell_regrown y2
      have b3 := cell_regrown y3
      have b4 := cell_regrown y4
      clear x0 x1 x2 x3 x4 y0 y1 y2 y3 y4
      cases q with
      | true =>
        go_wp2_with fail
        refine wp_region_quiet_below (by kernel_rfl) (by kernel_rfl) ?_; (repeat (go_big_quiet_step (first | (go_at_call 13; exact Calls.regrown_of (IK.out _ _))))); refine wpQuiet_nil ?_; intro wq hq; replace hq := Kit.of_regrown hq
        have U1 := Lib.hid (stayK T1.out hq)
        have U2 := Lib.hid (stayK T2.out hq)
        have BE2 := Lib.hid (two_belowK BE.out hq BE.out.size)
        clear hq IK T1 T2 u0 u1 u2 u3 u4 v0 v1 v2 v3 v4 p0 p1 a0 a1 a2 a3 a4 b0 b1 b2 b3 b4
        have RL : Hid (NodL f R w _ _ gk kk (.int .i64 ((k : Int) + 1)) wq) := Lib.hid ⟨k + 1, by rw [Int.natCast_add]; rfl, by omega, STEP.out, U1.out, U2.out, BE2.out⟩
        go_wp2
        go_roundw
        case rel => exact RL.out
        case measure => simp [intOf]; omega
      | false =>
        have E : false = R := STEP.out
        subst E
        go_wp2_with fail
        refine wp_region_quiet_below (by kernel_rfl) (by kernel_rfl) ?_; (repeat (go_big_quiet_step (first | (go_at_call 13; exact Calls.regrown_of (IK.out _ _))))); refine wpQuiet_nil ?_; intro wq hq; replace hq := Kit.of_regrown hq
        have BE2 := Lib.hid (two_belowK BE.out hq BE.out.size)
        clear hq IK T1 T2 u0 u1 u2 u3 u4 v0 v1 v2 v3 v4 p0 p1 a0 a1 a2 a3 a4 b0 b1 b2 b3 b4
        go_wp2
        go_ret
        exact ⟨rfl, BE2.out⟩
    · obtain rfl : k = gk.length := by omega
      have E := AL.out
      rw [List.drop_length, HO.out, List.drop_length] at E
      have E2 : true = R := E
      subst E2
      clear HX HY HX2 HY2 IH E
      go_wp2
      go_ret
      exact ⟨rfl, BE.out⟩
/-- NODE (equality of trees), of any trees in memory -/
theorem node_any : ∀ (d e : Nat) (w : World) (P Q : Nat → Prop) (v v2 : Value) (t u : T), NodeR d w P v t → NodeR e w Q v2 u → (∀ b, P b → b < w.heap.size) → (∀ b, Q b → b < w.heap.size) → countT d t ≤ 1000000 →
    Calls Try.prog 13 #[v, v2] w fun e w' => e = .returned (.bool (eqT d t u)) ∧ Below w.heap.size w w' := by
  intro d
  induction d with
  | zero =>
    intro e w P Q v v2 t u hn hm hP hQ hc
    obtain ⟨A, c, K, ck, xs, rfl, h2, -, -, h5, h6⟩ := hn.open_
    obtain ⟨A2, c2, K2, ck2, ys, rfl, j2, -, -, j5, j6⟩ := hm.open_
    have hk := hn.leaf_kids
    rw [eqT_eq 0 t u (fun _ => hk)]
    cases ho : nodeEq t u with
    | false => simpa using node_bad w P Q t u h2 j2 hP hQ ho
    | true =>
      rw [Bool.true_and]
      exact node_step (0 - 1) (e - 1) _ w P Q t u h2 j2 h5 h6 j5 j6 hP hQ (by rw [hk]; simp) ho (fun k hk' => by rw [hk] at hk'; simp at hk')
  | succ d ih =>
    intro e w P Q v v2 t u hn hm hP hQ hc
    obtain ⟨A, c, K, ck, xs, rfl, h2, -, -, h5, h6⟩ := hn.open_
    obtain ⟨A2, c2, K2, ck2, ys, rfl, j2, -, -, j5, j6⟩ := hm.open_
    rw [eqT_eq (d + 1) t u (fun h => by omega)]
    cases ho : nodeEq t u with
    | false => simpa using node_bad w P Q t u h2 j2 hP hQ ho
    | true =>
      rw [Bool.true_and]
      exact node_step d (e - 1) _ w P Q t u h2 j2 h5 h6 j5 j6 hP hQ (by have := count_kids (d := d) (t := t); omega) ho
        (fun k hk' X v v2 m hv hv2 hX => ih (e - 1) X P Q v v2 k m hv hv2 (fun b h => Nat.lt_of_lt_of_le (hP b h) hX) (fun b h => Nat.lt_of_lt_of_le (hQ b h) hX) (by have := count_kid (d := d) hk'; omega))
end Go.Proofs.Ytoomdaljdbennaa.Tree
