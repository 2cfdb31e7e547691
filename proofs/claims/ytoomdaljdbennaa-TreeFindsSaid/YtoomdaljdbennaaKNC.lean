/- Joined texts: PlTreeC, PlTreeD, SpoA. -/
import Derived.Test.YtoomdaljdbennaaKNA
import Derived.Test.YtoomdaljdbennaaKX
set_option linter.unusedSimpArgs false
set_option linter.unusedVariables false
/- Plain laws of trees: sizes of what is read; where its kids begin. No program in sight. -/
namespace Go.Proofs.Ytoomdaljdbennaa.Tree
open Kit Cur Tlv

theorem flatMap_same {α β : Type} {f g : α → List β} : ∀ {ks : List α}, (∀ k, k ∈ ks → f k = g k) → ks.flatMap f = ks.flatMap g
  | [], _ => rfl
  | k :: ks, h => by
    rw [List.flatMap_cons, List.flatMap_cons, h k (by simp), flatMap_same (fun x hx => h x (by simp [hx]))]
theorem fits_le : ∀ {d e : Nat} {t : T}, Fits d t → d ≤ e → Fits e t := by
  intro d
  induction d with
  | zero =>
    intro e t h _
    cases e with
    | zero => exact h
    | succ e => intro k hk; rw [show t.kids = [] from h] at hk; simp at hk
  | succ d ih =>
    intro e t h hde
    obtain ⟨e, rfl⟩ : ∃ e', e = e' + 1 := ⟨e - 1, by omega⟩
    exact fun k hk => ih (h k hk) (by omega)
/-- the encoding does not hang on the number of levels, if they are enough -/
theorem bytes_fits : ∀ {d e : Nat} {t : T}, Fits d t → d ≤ e → bytesT e t = bytesT d t := by
  intro d
  induction d with
  | zero =>
    intro e t h _
    have hk : t.kids = [] := h
    cases e with
    | zero => rfl
    | succ e => simp [bytesT, hk]
  | succ d ih =>
    intro e t h hde
    obtain ⟨e, rfl⟩ : ∃ e', e = e' + 1 := ⟨e - 1, by omega⟩
    simp only [bytesT]
    rw [flatMap_same (fun k hk => ih (h k hk) (by omega))]
/-- octets of a tree -/
def szT (d : Nat) (t : T) : Nat := (bytesT d t).length
/-- octets of some kids -/
def szK (d : Nat) (ks : List T) : Nat := (ks.flatMap (bytesT d)).length
theorem szK_snoc (d : Nat) (ks : List T) (k : T) : szK d (ks ++ [k]) = szK d ks + szT d k := by unfold szK szT; simp
theorem szK_nil (d : Nat) : szK d [] = 0 := rfl
/-- octets of the header of a tree -/
def hdT (d : Nat) (t : T) : Nat := szT (d + 1) t - (t.con.length + szK d t.kids)
theorem read_size (d : Nat) (l : List UInt8) (hl : l.length ≤ 140737488355328) (h : (readT d l).code = 0) : (readT d l).size = szT d (readT d l).t := by
  cases d with
  | zero => simp [readT] at h
  | succ d =>
    obtain ⟨g, e⟩ := read_of d l hl h
    obtain ⟨-, b2, b3⟩ := (readT_bd (d + 1) l hl).1 h
    have e' := congrArg List.length e
    rw [List.length_append, List.length_drop] at e'
    unfold szT
    rw [bytes_fits g.1 (Nat.le_succ d)]
    omega
theorem szT_node (d : Nat) (c n : Int) (b : Bool) (con : List UInt8) (kids : List T) : szT (d + 1) (.mk c n b con kids) = (encL c b n (con ++ kids.flatMap (bytesT d))).length := rfl
/-- where the kids of what is read begin -/
theorem read_hd {d : Nat} {l : List UInt8} (hl : l.length ≤ 140737488355328) (h : ¬ (nx l).code ≠ 0) (h2 : (nx l).hd.cons = true) {acc : List T} (h3 : kidsA (readT d) (nx l).con ((nx l).con.length + 1) 0 [] = (acc, 0, 0)) :
    (hdT d (.mk (nx l).hd.cls (nx l).hd.num true [] acc) : Int) = (nx l).hd.size ∧ (szT (d + 1) (.mk (nx l).hd.cls (nx l).hd.num true [] acc) : Int) = (nx l).hd.size + (nx l).con.length ∧ szK d acc = (nx l).con.length := by
  have hr := readT_node (d := d) h h2 (by rw [h3]; simp)
  rw [h3] at hr
  simp only [] at hr
  obtain ⟨f1, f2, f3⟩ := nx_fit (l := l) (by omega)
  have s := read_size (d + 1) l hl (by rw [hr])
  rw [hr] at s
  simp only [] at s
  have g := (read_of d l hl (by rw [hr])).1
  rw [hr] at g
  simp only [] at g
  have hnb := nx_back (l := l) (by omega)
  obtain ⟨b1, -⟩ := hnb
  have k : szK d acc = (nx l).con.length := by
    cases d with
    | zero =>
      have hk : acc = [] := g.1
      subst hk
      have h5 : (kidsA (readT 0) (nx l).con ((nx l).con.length + 1) 0 []) = ([], 0, 0) := h3
      rcases Nat.eq_zero_or_pos (nx l).con.length with e | e
      · rw [e]; rfl
      · rw [kidsA_err e (by simp [readT])] at h5
        simp [readT] at h5
    | succ d =>
      obtain ⟨new, n1, n2, n3⟩ := kidsA_back (rd := readT (d + 1)) (l := (nx l).con) (G := Good d) (by_ := bytesT d) (fun m hm => readT_bd (d + 1) m (by omega)) (fun m hm hc => read_of d m (by omega) hc) ((nx l).con.length + 1) 0 [] (Nat.zero_le _) (by omega) (by rw [h3])
      rw [h3] at n1
      simp only [List.nil_append] at n1
      subst n1
      unfold szK
      rw [List.drop_zero] at n2
      rw [flatMap_same (fun k hk => bytes_fits (n3 k hk).1 (Nat.le_succ d)), ← n2]
  refine ⟨?_, by omega, k⟩
  unfold hdT
  simp only [T.con, T.kids, List.length_nil]
  omega
end Go.Proofs.Ytoomdaljdbennaa.Tree
/- Plain laws of trees: the cases of a reading, from its header. No program in sight. -/
namespace Go.Proofs.Ytoomdaljdbennaa.Tree
open Kit Cur Tlv

/-- the contents octets behind a header -/
def conS (s : List UInt8) : List UInt8 := (s.drop (rh s).1.size.toNat).take (rh s).1.len.toNat
theorem nx_bad {s : List UInt8} (h : (rh s).2.1 ≠ 0) : nx s = ⟨Hd.zero, [], [], (rh s).2.1, (rh s).2.2⟩ := by unfold nx; rw [if_pos h]
theorem nx_short {s : List UInt8} (h : ¬ (rh s).2.1 ≠ 0) (h2 : (s.length : Int) - (rh s).1.size < (rh s).1.len) : nx s = ⟨Hd.zero, [], [], 1, s.length⟩ := by unfold nx; rw [if_neg h, if_pos h2]
theorem nx_ok {s : List UInt8} (h : ¬ (rh s).2.1 ≠ 0) (h2 : ¬ (s.length : Int) - (rh s).1.size < (rh s).1.len) :
    nx s = ⟨(rh s).1, conS s, s.drop ((rh s).1.size.toNat + (rh s).1.len.toNat), 0, 0⟩ := by unfold nx; rw [if_neg h, if_neg h2]; rfl
theorem sp_err (d : Nat) {s : List UInt8} (h : (rh s).2.1 ≠ 0) : readT (d + 1) s = ⟨T.zero, 0, (rh s).2.1, (rh s).2.2⟩ := by
  have e := nx_bad h
  rw [readT_err (by rw [e]; exact h), e]
theorem sp_short (d : Nat) {s : List UInt8} (h : ¬ (rh s).2.1 ≠ 0) (h2 : (s.length : Int) - (rh s).1.size < (rh s).1.len) : readT (d + 1) s = ⟨T.zero, 0, 1, s.length⟩ := by
  have e := nx_short h h2
  rw [readT_err (by rw [e]; simp), e]
theorem sp_fit {s : List UInt8} (h : ¬ (rh s).2.1 ≠ 0) (h2 : ¬ (s.length : Int) - (rh s).1.size < (rh s).1.len) : 0 ≤ (rh s).1.size ∧ (rh s).1.len = (conS s).length ∧ (rh s).1.size + (rh s).1.len ≤ s.length := by
  have e := nx_ok h h2
  have := nx_fit (l := s) (by rw [e])
  rw [e] at this
  exact this
theorem sp_leaf (d : Nat) {s : List UInt8} (hl : s.length ≤ 140737488355328) (h : ¬ (rh s).2.1 ≠ 0) (h2 : ¬ (s.length : Int) - (rh s).1.size < (rh s).1.len) (h3 : (rh s).1.cons = false) :
    readT (d + 1) s = ⟨.mk (rh s).1.cls (rh s).1.num false (conS s) [], (rh s).1.size + (rh s).1.len, 0, 0⟩ ∧ (szT (d + 1) (.mk (rh s).1.cls (rh s).1.num false (conS s) []) : Int) = (rh s).1.size + (rh s).1.len := by
  have e := nx_ok h h2
  have r := readT_leaf (d := d) (l := s) (by rw [e]; simp) (by rw [e]; exact h3)
  rw [e] at r
  simp only [] at r
  have z := read_size (d + 1) s hl (by rw [r])
  rw [r] at z
  exact ⟨r, z.symm⟩
theorem sp_kerr (d : Nat) {s : List UInt8} (h : ¬ (rh s).2.1 ≠ 0) (h2 : ¬ (s.length : Int) - (rh s).1.size < (rh s).1.len) (h3 : (rh s).1.cons = true) {c o : Int} {acc : List T} (h4 : kidsA (readT d) (conS s) ((conS s).length + 1) 0 [] = (acc, c, o)) (h5 : c ≠ 0) :
    readT (d + 1) s = ⟨T.zero, 0, c, (rh s).1.size + o⟩ := by
  have e := nx_ok h h2
  have r := readT_kerr (d := d) (l := s) (by rw [e]; simp) (by rw [e]; exact h3) (by rw [e]; simp only []; rw [h4]; exact h5)
  rw [e] at r
  simp only [h4] at r
  exact r
theorem sp_node (d : Nat) {s : List UInt8} (hl : s.length ≤ 140737488355328) (h : ¬ (rh s).2.1 ≠ 0) (h2 : ¬ (s.length : Int) - (rh s).1.size < (rh s).1.len) (h3 : (rh s).1.cons = true) {acc : List T} (h4 : kidsA (readT d) (conS s) ((conS s).length + 1) 0 [] = (acc, 0, 0)) :
    readT (d + 1) s = ⟨.mk (rh s).1.cls (rh s).1.num true [] acc, (rh s).1.size + (rh s).1.len, 0, 0⟩ ∧ (hdT d (.mk (rh s).1.cls (rh s).1.num true [] acc) : Int) = (rh s).1.size ∧ (szT (d + 1) (.mk (rh s).1.cls (rh s).1.num true [] acc) : Int) = (rh s).1.size + (rh s).1.len := by
  have e := nx_ok h h2
  have f := sp_fit h h2
  have r := readT_node (d := d) (l := s) (by rw [e]; simp) (by rw [e]; exact h3) (by rw [e]; simp only []; rw [h4]; simp)
  have z := read_hd (d := d) (l := s) hl (by rw [e]; simp) (by rw [e]; exact h3) (acc := acc) (by rw [e]; exact h4)
  rw [e] at r z
  simp only [h4] at r z
  exact ⟨r, z.1, by rw [f.2.1]; exact z.2.1⟩
theorem cut_drop (l : List UInt8) (a x p : Nat) : ((l.drop a).take x).drop p = (l.drop (a + p)).take (x - p) := by rw [List.drop_take, List.drop_drop]
theorem cut_cut (l : List UInt8) (a x k m : Nat) (h : k + m ≤ x) : (((l.drop a).take x).drop k).take m = (l.drop (a + k)).take m := by
  rw [cut_drop, List.take_take, Nat.min_eq_left (by omega)]
end Go.Proofs.Ytoomdaljdbennaa.Tree
/- Spots in memory: an element with its offsets, the spots of its kids in cells of allowed blocks. -/
namespace Go.Proofs.Ytoomdaljdbennaa.Tree
open Go.RowKit Kit Tlv

theorem cells8 {w : World} {b : Nat} {x0 x1 x2 x3 x4 x5 x6 x7 : Value} {t : TypeId} (h : w.heap[b]? = some (.cells #[x0, x1, x2, x3, x4, x5, x6, x7] t (0, 0))) :
    w.cell? ⟨b, 0, none⟩ = some x0 ∧ w.cell? ⟨b, 1, none⟩ = some x1 ∧ w.cell? ⟨b, 2, none⟩ = some x2 ∧ w.cell? ⟨b, 3, none⟩ = some x3 ∧ w.cell? ⟨b, 4, none⟩ = some x4 ∧ w.cell? ⟨b, 5, none⟩ = some x5 ∧ w.cell? ⟨b, 6, none⟩ = some x6 ∧ w.cell? ⟨b, 7, none⟩ = some x7 := by
  refine ⟨?_, ?_, ?_, ?_, ?_, ?_, ?_, ?_⟩ <;> (rw [cell_of_row w b _ _ _ _ h]; rfl)
theorem free8 {w : World} {b : Nat} {cs : Array Value} {t : TypeId} (h : w.heap[b]? = some (.cells cs t (0, 0))) :
    w.frozen? ⟨b, 0, none⟩ = false ∧ w.frozen? ⟨b, 1, none⟩ = false ∧ w.frozen? ⟨b, 2, none⟩ = false ∧ w.frozen? ⟨b, 3, none⟩ = false ∧ w.frozen? ⟨b, 4, none⟩ = false ∧ w.frozen? ⟨b, 5, none⟩ = false ∧ w.frozen? ⟨b, 6, none⟩ = false ∧ w.frozen? ⟨b, 7, none⟩ = false :=
  ⟨frozen_of_row w b 0 _ _ h, frozen_of_row w b 1 _ _ h, frozen_of_row w b 2 _ _ h, frozen_of_row w b 3 _ _ h, frozen_of_row w b 4 _ _ h, frozen_of_row w b 5 _ _ h, frozen_of_row w b 6 _ _ h, frozen_of_row w b 7 _ _ h⟩
/-- a block written over, cell by cell -/
abbrev put8 (w : World) (b : Nat) (y0 y1 y2 y3 y4 y5 y6 y7 : Value) : World :=
  (((((((w.setCell ⟨b, 0, none⟩ y0).setCell ⟨b, 1, none⟩ y1).setCell ⟨b, 2, none⟩ y2).setCell ⟨b, 3, none⟩ y3).setCell ⟨b, 4, none⟩ y4).setCell ⟨b, 5, none⟩ y5).setCell ⟨b, 6, none⟩ y6).setCell ⟨b, 7, none⟩ y7
theorem set8 {w : World} {b : Nat} {x0 x1 x2 x3 x4 x5 x6 x7 : Value} {t : TypeId} (y0 y1 y2 y3 y4 y5 y6 y7 : Value) (h : w.heap[b]? = some (.cells #[x0, x1, x2, x3, x4, x5, x6, x7] t (0, 0))) :
    (put8 w b y0 y1 y2 y3 y4 y5 y6 y7).heap[b]? = some (.cells #[y0, y1, y2, y3, y4, y5, y6, y7] t (0, 0)) := by
  have h0 : (w.setCell ⟨b, 0, none⟩ y0).heap[b]? = some (.cells #[y0, x1, x2, x3, x4, x5, x6, x7] t (0, 0)) := heap_setCell_same _ b 0 _ _ y0 h
  unfold put8
  generalize w.setCell ⟨b, 0, none⟩ y0 = w0 at *
  have h1 : (w0.setCell ⟨b, 1, none⟩ y1).heap[b]? = some (.cells #[y0, y1, x2, x3, x4, x5, x6, x7] t (0, 0)) := heap_setCell_same _ b 1 _ _ y1 h0
  generalize w0.setCell ⟨b, 1, none⟩ y1 = w1 at *
  have h2 : (w1.setCell ⟨b, 2, none⟩ y2).heap[b]? = some (.cells #[y0, y1, y2, x3, x4, x5, x6, x7] t (0, 0)) := heap_setCell_same _ b 2 _ _ y2 h1
  generalize w1.setCell ⟨b, 2, none⟩ y2 = w2 at *
  have h3 : (w2.setCell ⟨b, 3, none⟩ y3).heap[b]? = some (.cells #[y0, y1, y2, y3, x4, x5, x6, x7] t (0, 0)) := heap_setCell_same _ b 3 _ _ y3 h2
  generalize w2.setCell ⟨b, 3, none⟩ y3 = w3 at *
  have h4 : (w3.setCell ⟨b, 4, none⟩ y4).heap[b]? = some (.cells #[y0, y1, y2, y3, y4, x5, x6, x7] t (0, 0)) := heap_setCell_same _ b 4 _ _ y4 h3
  generalize w3.setCell ⟨b, 4, none⟩ y4 = w4 at *
  have h5 : (w4.setCell ⟨b, 5, none⟩ y5).heap[b]? = some (.cells #[y0, y1, y2, y3, y4, y5, x6, x7] t (0, 0)) := heap_setCell_same _ b 5 _ _ y5 h4
  generalize w4.setCell ⟨b, 5, none⟩ y5 = w5 at *
  have h6 : (w5.setCell ⟨b, 6, none⟩ y6).heap[b]? = some (.cells #[y0, y1, y2, y3, y4, y5, y6, x7] t (0, 0)) := heap_setCell_same _ b 6 _ _ y6 h5
  generalize w5.setCell ⟨b, 6, none⟩ y6 = w6 at *
  exact heap_setCell_same _ b 7 _ _ y7 h6
theorem far8 {w : World} {b c : Nat} {o : Obj} (h : w.heap[b]? = some o) (hne : b ≠ c) (y0 y1 y2 y3 y4 y5 y6 y7 : Value) : (put8 w c y0 y1 y2 y3 y4 y5 y6 y7).heap[b]? = some o :=
  set_far (set_far (set_far (set_far (set_far (set_far (set_far (set_far h hne _) hne _) hne _) hne _) hne _) hne _) hne _) hne _

/-- spots, eight cells each, one behind the other in the bytes -/
def RowS (N : Value → Nat → T → Prop) (sz : T → Nat) : Nat → List T → List Value → Prop
  | _, [], xs => xs = []
  | p, t :: ts, xs => ∃ x0 x1 x2 x3 x4 x5 x6 x7 ys, xs = x0 :: x1 :: x2 :: x3 :: x4 :: x5 :: x6 :: x7 :: ys ∧ N (.agg #[x0, x1, x2, x3, x4, x5, x6, x7]) p t ∧ RowS N sz (p + sz t) ts ys
/-- a spot's value -/
def spotV (a e : Int) (t : T) (A : Option Addr) (c : Nat) (K : Option Addr) (ck : Nat) (S : Option Addr) (cs : Nat) : Value :=
  .agg #[.int .i64 a, .int .i64 e, .int .i64 t.cls, .int .i64 t.num, .bool t.cons, .slice A t.con.length c, .slice K t.kids.length ck, .slice S t.kids.length cs]
/-- a spot, of a tree at an offset -/
def SpotR : Nat → World → (Nat → Prop) → Value → Nat → T → Prop
  | 0, w, P, v, a, t => ∃ A c K ck S cs, v = spotV a (a + szT 0 t) t A c K ck S cs ∧ NodeR 0 w P (nodeV t A c K ck) t
  | d + 1, w, P, v, a, t => ∃ A c K ck S cs xs, v = spotV a (a + szT (d + 1) t) t A c K ck S cs ∧ NodeR (d + 1) w P (nodeV t A c K ck) t ∧ CellsP w P S xs ∧ RowS (SpotR d w P) (szT d) (a + hdT d t) t.kids xs

/-- octets of some trees -/
def sumS (sz : T → Nat) : List T → Nat
  | [] => 0
  | t :: ts => sz t + sumS sz ts
theorem sumS_szK (d : Nat) : ∀ (ts : List T), sumS (szT d) ts = szK d ts
  | [] => rfl
  | t :: ts => by
    have := sumS_szK d ts
    simp only [sumS, szK, List.flatMap_cons, List.length_append] at this ⊢
    unfold szT at *
    omega
theorem RowS.len {N : Value → Nat → T → Prop} {sz : T → Nat} : ∀ {p : Nat} {ts : List T} {xs : List Value}, RowS N sz p ts xs → xs.length = ts.length * 8
  | _, [], xs, h => by have h' : xs = [] := h; rw [h']; rfl
  | p, t :: ts, xs, h => by obtain ⟨x0, x1, x2, x3, x4, x5, x6, x7, ys, rfl, _, h3⟩ := h; have := RowS.len h3; simp only [List.length_cons]; omega
theorem RowS.imp {N N' : Value → Nat → T → Prop} {sz : T → Nat} (hN : ∀ v a t, N v a t → N' v a t) : ∀ {p : Nat} {ts : List T} {xs : List Value}, RowS N sz p ts xs → RowS N' sz p ts xs
  | _, [], xs, h => h
  | p, t :: ts, xs, h => by obtain ⟨x0, x1, x2, x3, x4, x5, x6, x7, ys, rfl, h2, h3⟩ := h; exact ⟨x0, x1, x2, x3, x4, x5, x6, x7, ys, rfl, hN _ _ _ h2, RowS.imp hN h3⟩
theorem RowS.snoc {N : Value → Nat → T → Prop} {sz : T → Nat} {t : T} {y0 y1 y2 y3 y4 y5 y6 y7 : Value} : ∀ {p : Nat} {ts : List T} {xs : List Value}, N (.agg #[y0, y1, y2, y3, y4, y5, y6, y7]) (p + sumS sz ts) t → RowS N sz p ts xs → RowS N sz p (ts ++ [t]) (xs ++ [y0, y1, y2, y3, y4, y5, y6, y7])
  | p, [], xs, hy, h => by have h' : xs = [] := h; rw [h']; exact ⟨y0, y1, y2, y3, y4, y5, y6, y7, [], rfl, by simpa [sumS] using hy, rfl⟩
  | p, u :: ts, xs, hy, h => by
    obtain ⟨x0, x1, x2, x3, x4, x5, x6, x7, ys, rfl, h2, h3⟩ := h
    exact ⟨x0, x1, x2, x3, x4, x5, x6, x7, ys ++ [y0, y1, y2, y3, y4, y5, y6, y7], rfl, h2, RowS.snoc (by simpa only [sumS, Nat.add_assoc] using hy) h3⟩
theorem RowS.at_ {N : Value → Nat → T → Prop} {sz : T → Nat} : ∀ {p : Nat} {ts : List T} {xs : List Value} {i : Nat} {t : T}, RowS N sz p ts xs → ts[i]? = some t →
    ∃ x0 x1 x2 x3 x4 x5 x6 x7, N (.agg #[x0, x1, x2, x3, x4, x5, x6, x7]) (p + sumS sz (ts.take i)) t ∧ xs[i * 8]? = some x0 ∧ xs[i * 8 + 1]? = some x1 ∧ xs[i * 8 + 2]? = some x2 ∧ xs[i * 8 + 3]? = some x3 ∧ xs[i * 8 + 4]? = some x4 ∧ xs[i * 8 + 5]? = some x5 ∧ xs[i * 8 + 6]? = some x6 ∧ xs[i * 8 + 7]? = some x7
  | p, [], xs, i, t, h, hi => by simp at hi
  | p, u :: ts, xs, 0, t, h, hi => by
    obtain ⟨x0, x1, x2, x3, x4, x5, x6, x7, ys, rfl, h2, h3⟩ := h
    simp at hi
    subst hi
    exact ⟨x0, x1, x2, x3, x4, x5, x6, x7, h2, rfl, rfl, rfl, rfl, rfl, rfl, rfl, rfl⟩
  | p, u :: ts, xs, i + 1, t, h, hi => by
    obtain ⟨x0, x1, x2, x3, x4, x5, x6, x7, ys, rfl, h2, h3⟩ := h
    obtain ⟨z0, z1, z2, z3, z4, z5, z6, z7, g, g0, g1, g2, g3, g4, g5, g6, g7⟩ := RowS.at_ h3 (by simpa using hi)
    refine ⟨z0, z1, z2, z3, z4, z5, z6, z7, by simpa only [List.take_succ_cons, sumS, Nat.add_assoc] using g, ?_, ?_, ?_, ?_, ?_, ?_, ?_, ?_⟩
    · rw [show (i + 1) * 8 = i * 8 + 1 + 1 + 1 + 1 + 1 + 1 + 1 + 1 from by omega]; simpa using g0
    · rw [show (i + 1) * 8 + 1 = i * 8 + 1 + 1 + 1 + 1 + 1 + 1 + 1 + 1 + 1 from by omega]; simpa using g1
    · rw [show (i + 1) * 8 + 2 = i * 8 + 2 + 1 + 1 + 1 + 1 + 1 + 1 + 1 + 1 from by omega]; simpa using g2
    · rw [show (i + 1) * 8 + 3 = i * 8 + 3 + 1 + 1 + 1 + 1 + 1 + 1 + 1 + 1 from by omega]; simpa using g3
    · rw [show (i + 1) * 8 + 4 = i * 8 + 4 + 1 + 1 + 1 + 1 + 1 + 1 + 1 + 1 from by omega]; simpa using g4
    · rw [show (i + 1) * 8 + 5 = i * 8 + 5 + 1 + 1 + 1 + 1 + 1 + 1 + 1 + 1 from by omega]; simpa using g5
    · rw [show (i + 1) * 8 + 6 = i * 8 + 6 + 1 + 1 + 1 + 1 + 1 + 1 + 1 + 1 from by omega]; simpa using g6
    · rw [show (i + 1) * 8 + 7 = i * 8 + 7 + 1 + 1 + 1 + 1 + 1 + 1 + 1 + 1 from by omega]; simpa using g7
theorem SpotR.keep {w w' : World} {P : Nat → Prop} (hk : Keeps P w w') : ∀ {d : Nat} {v : Value} {a : Nat} {t : T}, SpotR d w P v a t → SpotR d w' P v a t
  | 0, v, a, t, h => by obtain ⟨A, c, K, ck, S, cs, h1, h2⟩ := h; exact ⟨A, c, K, ck, S, cs, h1, h2.keep hk⟩
  | d + 1, v, a, t, h => by obtain ⟨A, c, K, ck, S, cs, xs, h1, h2, h3, h4⟩ := h; exact ⟨A, c, K, ck, S, cs, xs, h1, h2.keep hk, h3.keep hk, RowS.imp (fun _ _ _ => SpotR.keep hk) h4⟩
theorem SpotR.mono {w : World} {P P' : Nat → Prop} (hk : ∀ b, P b → P' b) : ∀ {d : Nat} {v : Value} {a : Nat} {t : T}, SpotR d w P v a t → SpotR d w P' v a t
  | 0, v, a, t, h => by obtain ⟨A, c, K, ck, S, cs, h1, h2⟩ := h; exact ⟨A, c, K, ck, S, cs, h1, h2.mono hk⟩
  | d + 1, v, a, t, h => by obtain ⟨A, c, K, ck, S, cs, xs, h1, h2, h3, h4⟩ := h; exact ⟨A, c, K, ck, S, cs, xs, h1, h2.mono hk, h3.mono hk, RowS.imp (fun _ _ _ => SpotR.mono hk) h4⟩
theorem SpotR.form {w : World} {P : Nat → Prop} {d : Nat} {v : Value} {a : Nat} {t : T} (h : SpotR d w P v a t) : ∃ A c K ck S cs, v = spotV a (a + szT d t) t A c K ck S cs ∧ NodeR d w P (nodeV t A c K ck) t := by
  cases d with
  | zero => exact h
  | succ d => obtain ⟨A, c, K, ck, S, cs, xs, h1, h2, -⟩ := h; exact ⟨A, c, K, ck, S, cs, h1, h2⟩
theorem infoSpot : (Try.prog.info? 53).map (fun i => (i.zero, i.size, i.bytes)) = some (some (.agg #[.int .i64 0, .int .i64 0, .int .i64 0, .int .i64 0, .bool false, .slice none 0 0, .slice none 0 0, .slice none 0 0]), 8, 112) := by kernel_rfl

/-- the zero spot -/
abbrev zeroS : Value := .agg #[.int .i64 0, .int .i64 0, .int .i64 0, .int .i64 0, .bool false, .slice none 0 0, .slice none 0 0, .slice none 0 0]

set_option maxRecDepth 100000 in
set_option maxHeartbeats 4000000 in
theorem fail_any (c o : Int) (w : World) : Calls Try.prog 44 #[.int .i64 c, .int .i64 o] w fun e w' => e = .returned (.tuple #[zeroS, err c o]) ∧ Below w.heap.size w w' := by
  have t4 : ((w.alloc (.cells #[.int .i64 0, .int .i64 0, .int .i64 0, .int .i64 0, .bool false, .slice none 0 0, .slice none 0 0, .slice none 0 0] 53)).alloc (.cells #[.int .i64 0, .int .i64 0] 29)).heap[w.heap.size]? = _ := bk_old (bk_new rfl)
  have t6 : ((w.alloc (.cells #[.int .i64 0, .int .i64 0, .int .i64 0, .int .i64 0, .bool false, .slice none 0 0, .slice none 0 0, .slice none 0 0] 53)).alloc (.cells #[.int .i64 0, .int .i64 0] 29)).heap[w.heap.size + 1]? = _ := bk_new (by simp)
  have tc := cells8 (far2 (c := w.heap.size + 1) (set8 (.int .i64 0) (.int .i64 0) (.int .i64 0) (.int .i64 0) (.bool false) (.slice none 0 0) (.slice none 0 0) (.slice none 0 0) t4) (by omega) (.int .i64 c) (.int .i64 o))
  have td := cells2 (set2 (.int .i64 c) (.int .i64 o) (far8 (c := w.heap.size) t6 (by omega) (.int .i64 0) (.int .i64 0) (.int .i64 0) (.int .i64 0) (.bool false) (.slice none 0 0) (.slice none 0 0) (.slice none 0 0)))
  clear t4 t6
  go_enter Try.func44, Try.ntmps44
  go_wp2
  refine bodyPost_ret (v := .tuple #[zeroS, err c o]) (by simp [results, Try.results44, go_sem, *]) rfl ?_
  exact ⟨rfl, (by repeat' (first | (with_reducible exact Below.refl _ _) | (with_reducible assumption) | (with_reducible refine below_drewN ?_ _) | (with_reducible refine Below.drew ?_) | (with_reducible refine Below.alloc ?_ ?_ _) | (with_reducible refine Below.setCell ?_ ?_ _) | go_size))⟩
end Go.Proofs.Ytoomdaljdbennaa.Tree
