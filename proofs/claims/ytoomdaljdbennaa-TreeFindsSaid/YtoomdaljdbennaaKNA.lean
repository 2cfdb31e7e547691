/- Joined texts: PlTreeB, NodA, NodB, NodC, NodD, NodE, NodF, NodG. -/
import Derived.Test.YtoomdaljdbennaaKL
import Derived.Test.YtoomdaljdbennaaKX
set_option linter.unusedSimpArgs false
set_option linter.unusedVariables false
/- Plain laws of trees: depth, number of nodes, shape, encoding; an encoding is read back; what is read is its encoding. No program in sight. -/
namespace Go.Proofs.Ytoomdaljdbennaa.Tree
open Kit Cur Tlv

/-- a tree of at most so many levels below its root -/
def Fits : Nat → T → Prop
  | 0, t => t.kids = []
  | d + 1, t => ∀ k, k ∈ t.kids → Fits d k
/-- the greatest of some numbers -/
def maxL (xs : List Nat) : Nat := xs.foldr max 0
def depthT : Nat → T → Nat
  | 0, _ => 1
  | d + 1, t => 1 + maxL (t.kids.map (depthT d))
def countT : Nat → T → Nat
  | 0, _ => 1
  | d + 1, t => 1 + (t.kids.map (countT d)).sum
/-- the encoding -/
def bytesT : Nat → T → List UInt8
  | 0, t => encL t.cls t.cons t.num t.con
  | d + 1, t => encL t.cls t.cons t.num (t.con ++ t.kids.flatMap (bytesT d))
/-- are the nodes valid, whatever the depth is? -/
def nodeOk (t : T) : Bool := decide (idCode t.cls t.num = 0) && ((!t.cons || t.con.isEmpty) && (t.cons || t.kids.isEmpty))
def shapedT : Nat → T → Bool
  | 0, t => nodeOk t
  | d + 1, t => nodeOk t && t.kids.all (shapedT d)

theorem maxL_le {xs : List Nat} {n : Nat} : maxL xs ≤ n ↔ ∀ x, x ∈ xs → x ≤ n := by
  induction xs with
  | nil => simp [maxL]
  | cons x xs ih =>
    have e : maxL (x :: xs) = max x (maxL xs) := rfl
    rw [e]
    constructor
    · intro h y hy
      rcases List.mem_cons.1 hy with rfl | hy
      · omega
      · exact ih.1 (by omega) y hy
    · intro h
      have h1 := h x (by simp)
      have h2 := ih.2 (fun y hy => h y (by simp [hy]))
      omega
theorem nodeOk_iff {t : T} : nodeOk t = true ↔ idCode t.cls t.num = 0 ∧ (t.cons = true → t.con = []) ∧ (t.cons = false → t.kids = []) := by
  unfold nodeOk
  cases t.cons <;> simp [List.isEmpty_iff]
/-- lengths that have an encoding, all through a tree -/
def LensOk : Nat → T → Prop
  | 0, t => lenCode t.con.length = 0
  | d + 1, t => lenCode (t.con ++ t.kids.flatMap (bytesT d)).length = 0 ∧ ∀ k, k ∈ t.kids → LensOk d k

/-- A TREE'S ENCODING IS READ BACK, also if other bytes follow -/
theorem read_back : ∀ (d D : Nat) (t : T), Fits d t → shapedT d t = true → LensOk d t → depthT d t ≤ D → ∀ more, readT D (bytesT d t ++ more) = ⟨t, ((bytesT d t).length : Int), 0, 0⟩ := by
  intro d
  induction d with
  | zero =>
    intro D t hf hs hl hd more
    obtain ⟨c, n, b, con, kids⟩ := t
    have hk : kids = [] := hf
    subst hk
    obtain ⟨i1, i2, i3⟩ := nodeOk_iff.1 hs
    simp only [T.cls, T.num, T.cons, T.con, T.kids] at i1 i2 i3
    obtain ⟨D, rfl⟩ : ∃ D', D = D' + 1 := ⟨D - 1, by simp only [depthT] at hd; omega⟩
    have hc : encCode c n con.length = 0 := encCode_mk i1 hl
    cases b with
    | false => exact readT_prim D hc more
    | true =>
      have := i2 rfl
      subst this
      have h := readT_cons (c := c) (n := n) [] D hc (fun x hx => by simp at hx) more
      exact h
  | succ d ih =>
    intro D t hf hs hl hd more
    obtain ⟨c, n, b, con, kids⟩ := t
    simp only [shapedT, Bool.and_eq_true] at hs
    obtain ⟨hs1, hs2⟩ := hs
    obtain ⟨i1, i2, i3⟩ := nodeOk_iff.1 hs1
    simp only [T.cls, T.num, T.cons, T.con, T.kids] at i1 i2 i3 hs2
    obtain ⟨D, rfl⟩ : ∃ D', D = D' + 1 := ⟨D - 1, by simp only [depthT] at hd; omega⟩
    obtain ⟨l1, l2⟩ := hl
    have hc : encCode c n (con ++ kids.flatMap (bytesT d)).length = 0 := encCode_mk i1 l1
    cases b with
    | false =>
      have := i3 rfl
      subst this
      simp only [List.flatMap_nil, List.append_nil] at hc
      have h := readT_prim (c := c) (n := n) (k := con) D hc more
      simpa [bytesT, T.cls, T.num, T.cons, T.con, T.kids] using h
    | true =>
      have := i2 rfl
      subst this
      have hcat : ∀ ks : List T, catE (ks.map fun k => (k, bytesT d k)) = ks.flatMap (bytesT d) := by
        intro ks
        induction ks with
        | nil => rfl
        | cons k ks ihk => simp only [List.map_cons, catE, List.flatMap_cons, ihk]
      have hmax : maxL (kids.map (depthT d)) ≤ D := by simp only [depthT, T.kids] at hd; omega
      have hx : ∀ x, x ∈ kids.map (fun k => (k, bytesT d k)) → 1 ≤ x.2.length ∧ ∀ more, readT D (x.2 ++ more) = ⟨x.1, (x.2.length : Int), 0, 0⟩ := by
        intro x hx
        obtain ⟨k, hk, rfl⟩ := List.mem_map.1 hx
        have hr := ih D k (hf k hk) (List.all_eq_true.1 hs2 k hk) (l2 k hk) (maxL_le.1 hmax _ (List.mem_map.2 ⟨k, hk, rfl⟩))
        refine ⟨?_, hr⟩
        rcases Nat.eq_zero_or_pos (bytesT d k).length with h0 | h0
        · have h1 := hr []
          rw [List.append_nil, List.eq_nil_of_length_eq_zero h0] at h1
          have h2 := (readT_bd D [] (by simp)).1 (by rw [h1])
          rw [h1] at h2
          simp at h2
        · exact h0
      try simp only [List.nil_append] at hc
      have h := readT_cons (c := c) (n := n) (kids.map fun k => (k, bytesT d k)) D (by rw [hcat]; exact hc) hx more
      rw [hcat, List.map_map] at h
      show readT (D + 1) (encL c true n ([] ++ kids.flatMap (bytesT d)) ++ more) = _
      rw [List.nil_append]
      rw [h]
      have hm : List.map ((fun x => x.1) ∘ fun k => (k, bytesT d k)) kids = kids := by
        rw [show ((fun x : T × List UInt8 => x.1) ∘ fun k => (k, bytesT d k)) = id from rfl, List.map_id]
      rw [hm]
      rfl
/-- kids that were read lie one behind the other -/
theorem kidsA_back {rd : List UInt8 → Rt} {l : List UInt8} {G : T → Prop} {by_ : T → List UInt8}
    (hrd : ∀ m : List UInt8, m.length ≤ l.length → RtOk (rd m) m.length) (hq : ∀ m : List UInt8, m.length ≤ l.length → (rd m).code = 0 → G (rd m).t ∧ m = by_ (rd m).t ++ m.drop (rd m).size.toNat) :
    ∀ (f p : Nat) (acc : List T), p ≤ l.length → l.length - p < f → (kidsA rd l f p acc).2.1 = 0 → ∃ new, (kidsA rd l f p acc).1 = acc ++ new ∧ l.drop p = new.flatMap by_ ∧ ∀ k, k ∈ new → G k := by
  intro f
  induction f with
  | zero => intro p acc hp hf; omega
  | succ f ih =>
    intro p acc hp hf h0
    rcases Nat.lt_or_ge p l.length with hlt | hge
    · by_cases he : (rd (l.drop p)).code ≠ 0
      · rw [kidsA_err hlt he] at h0; exact absurd h0 he
      · have hm : (l.drop p).length ≤ l.length := by rw [List.length_drop]; omega
        rw [kidsA_step hlt (by omega)] at h0 ⊢
        obtain ⟨_, b2, b3⟩ := (hrd (l.drop p) hm).1 (by omega)
        obtain ⟨g1, g2⟩ := hq (l.drop p) hm (by omega)
        rw [List.length_drop] at b3
        obtain ⟨new, n1, n2, n3⟩ := ih _ _ (by omega) (by omega) h0
        refine ⟨(rd (l.drop p)).t :: new, by rw [n1]; simp, ?_, ?_⟩
        · rw [List.flatMap_cons, ← n2, ← List.drop_drop]
          exact g2
        · intro k hk
          rcases List.mem_cons.1 hk with rfl | hk
          · exact g1
          · exact n3 k hk
    · rw [kidsA_end _ _ _ _ _ hge]
      exact ⟨[], by simp, by rw [List.drop_eq_nil_of_le hge]; rfl, by simp⟩
theorem cut_of {l e r : List UInt8} (h : e ++ r = l) : l = e ++ l.drop e.length := by subst h; rw [List.drop_left' rfl]
/-- what a tree is that was read: of so many levels, valid, and its encoding was read -/
def Good (d : Nat) (t : T) : Prop := Fits d t ∧ shapedT d t = true ∧ depthT d t ≤ d + 1 ∧ LensOk d t
/-- WHAT IS READ IS ITS ENCODING -/
theorem read_of : ∀ (d : Nat) (l : List UInt8), l.length ≤ 140737488355328 → (readT (d + 1) l).code = 0 →
    Good d (readT (d + 1) l).t ∧ l = bytesT d (readT (d + 1) l).t ++ l.drop (readT (d + 1) l).size.toNat := by
  intro d
  induction d with
  | zero =>
    intro l hl h0
    by_cases h : (nx l).code ≠ 0
    · rw [readT_err h] at h0; exact absurd h0 h
    · obtain ⟨b1, b2, b3, b4, b5⟩ := nx_back (by omega : (nx l).code = 0)
      obtain ⟨i1, i2⟩ := encCode_ok b1
      have el := fun b => enc_len (b := b) b1
      have hsz : ((nx l).hd.size + (nx l).hd.len).toNat = (encL (nx l).hd.cls (nx l).hd.cons (nx l).hd.num (nx l).con).length := by rw [el, b4, b5]; omega
      have hcut : l = encL (nx l).hd.cls (nx l).hd.cons (nx l).hd.num (nx l).con ++ l.drop ((nx l).hd.size + (nx l).hd.len).toNat := by
        rw [hsz]; exact cut_of b2
      cases h2 : (nx l).hd.cons with
      | false =>
        rw [readT_leaf h h2]
        rw [h2] at hcut
        exact ⟨⟨rfl, nodeOk_iff.2 ⟨i1, (fun h => by cases h), fun _ => rfl⟩, Nat.le_refl _, i2⟩, hcut⟩
      | true =>
        by_cases h3 : (kidsA (readT 0) (nx l).con ((nx l).con.length + 1) 0 []).2.1 ≠ 0
        · rw [readT_kerr h h2 h3] at h0; exact absurd h0 h3
        · have hnil : (nx l).con = [] := by
            rcases Nat.eq_zero_or_pos (nx l).con.length with g | g
            · exact List.eq_nil_of_length_eq_zero g
            · have h5 : (readT 0 ((nx l).con.drop 0)).code ≠ 0 := by simp [readT]
              rw [kidsA_err g h5] at h3
              exact absurd h5 (by simpa using h3)
          rw [readT_node h h2 h3]
          rw [h2] at hcut
          rw [hnil] at hcut i2 ⊢
          exact ⟨⟨rfl, nodeOk_iff.2 ⟨i1, (fun _ => rfl), fun h => by cases h⟩, Nat.le_refl _, i2⟩, hcut⟩
  | succ d ih =>
    intro l hl h0
    by_cases h : (nx l).code ≠ 0
    · rw [readT_err h] at h0; exact absurd h0 h
    · obtain ⟨b1, b2, b3, b4, b5⟩ := nx_back (by omega : (nx l).code = 0)
      obtain ⟨i1, i2⟩ := encCode_ok b1
      have el := fun b => enc_len (b := b) b1
      have hsz : ((nx l).hd.size + (nx l).hd.len).toNat = (encL (nx l).hd.cls (nx l).hd.cons (nx l).hd.num (nx l).con).length := by rw [el, b4, b5]; omega
      have hcut : l = encL (nx l).hd.cls (nx l).hd.cons (nx l).hd.num (nx l).con ++ l.drop ((nx l).hd.size + (nx l).hd.len).toNat := by
        rw [hsz]; exact cut_of b2
      obtain ⟨f1, f2, f3⟩ : 0 ≤ (nx l).hd.size ∧ (nx l).hd.len = (nx l).con.length ∧ (nx l).hd.size + (nx l).hd.len ≤ l.length := by
        refine ⟨by omega, b4, ?_⟩
        have := congrArg List.length hcut
        rw [List.length_append] at this
        omega
      cases h2 : (nx l).hd.cons with
      | false =>
        rw [readT_leaf h h2]
        rw [h2] at hcut
        refine ⟨⟨fun k hk => by simp [T.kids] at hk, ?_, ?_, ?_, fun k hk => by simp [T.kids] at hk⟩, ?_⟩
        · simp only [shapedT, T.kids, List.all_nil, Bool.and_true]
          exact nodeOk_iff.2 ⟨i1, (fun h => by cases h), fun _ => rfl⟩
        · simp [depthT, T.kids, maxL]
        · simpa [T.con, T.kids] using i2
        · simpa [bytesT, T.cls, T.num, T.cons, T.con, T.kids] using hcut
      | true =>
        by_cases h3 : (kidsA (readT (d + 1)) (nx l).con ((nx l).con.length + 1) 0 []).2.1 ≠ 0
        · rw [readT_kerr h h2 h3] at h0; exact absurd h0 h3
        · obtain ⟨new, n1, n2, n3⟩ := kidsA_back (rd := readT (d + 1)) (l := (nx l).con) (G := Good d) (by_ := bytesT d) (fun m hm => readT_bd (d + 1) m (by omega)) (fun m hm hc => ih m (by omega) hc) ((nx l).con.length + 1) 0 [] (Nat.zero_le _) (by omega) (by omega)
          rw [List.nil_append] at n1
          rw [List.drop_zero] at n2
          rw [readT_node h h2 h3, n1]
          rw [h2] at hcut
          refine ⟨⟨fun k hk => (n3 k hk).1, ?_, ?_, ?_, fun k hk => (n3 k hk).2.2.2⟩, ?_⟩
          · simp only [shapedT, T.kids, Bool.and_eq_true]
            exact ⟨nodeOk_iff.2 ⟨i1, (fun _ => rfl), fun h => by cases h⟩, List.all_eq_true.2 (fun k hk => (n3 k hk).2.1)⟩
          · simp only [depthT, T.kids]
            have : maxL (new.map (depthT d)) ≤ d + 1 := maxL_le.2 (fun x hx => by obtain ⟨k, hk, rfl⟩ := List.mem_map.1 hx; exact (n3 k hk).2.2.1)
            omega
          · simp only [T.con, T.kids, List.nil_append]
            rw [← n2]
            exact i2
          · simp only [bytesT, T.cls, T.num, T.cons, T.con, T.kids, List.nil_append]
            rw [← n2]
            exact hcut
/-- how much of a number is left behind a tree -/
def leftK (f : T → Int → Int) : List T → Int → Int
  | [], m => m
  | k :: ks, m => if m < 0 then m else leftK f ks (f k m)
def leftT : Nat → T → Int → Int
  | 0, t, m => m - 1 - t.con.length
  | d + 1, t, m => leftK (leftT d) t.kids (m - 1 - t.con.length)
theorem leftK_neg (f : T → Int → Int) (ks : List T) {m : Int} (h : m < 0) : leftK f ks m = m := by
  cases ks with
  | nil => rfl
  | cons k ks => simp only [leftK]; rw [if_pos h]
theorem leftK_le {f : T → Int → Int} (hf : ∀ k m, f k m ≤ m) : ∀ (ks : List T) (m : Int), leftK f ks m ≤ m := by
  intro ks
  induction ks with
  | nil => intro m; exact Int.le_refl _
  | cons k ks ih =>
    intro m
    simp only [leftK]
    split
    · exact Int.le_refl _
    · exact Int.le_trans (ih _) (hf k m)
theorem leftT_le : ∀ (d : Nat) (t : T) (m : Int), leftT d t m ≤ m := by
  intro d
  induction d with
  | zero => intro t m; simp only [leftT]; omega
  | succ d ih => intro t m; simp only [leftT]; exact Int.le_trans (leftK_le ih _ _) (by omega)
theorem leftK_cons {f : T → Int → Int} {k : T} {ks : List T} {m : Int} (h : 0 ≤ leftK f (k :: ks) m) : 0 ≤ m ∧ 0 ≤ f k m ∧ leftK f (k :: ks) m = leftK f ks (f k m) := by
  simp only [leftK] at h ⊢
  split at h
  · omega
  · rename_i hm
    rw [if_neg hm]
    refine ⟨by omega, ?_, rfl⟩
    rcases Int.lt_or_le (f k m) 0 with g | g
    · rw [leftK_neg f ks g] at h; omega
    · exact g
theorem leftK_mem {f : T → Int → Int} (hf : ∀ k m, f k m ≤ m) : ∀ (ks : List T) (m : Int), 0 ≤ leftK f ks m → ∀ k, k ∈ ks → ∃ m', m' ≤ m ∧ 0 ≤ f k m' := by
  intro ks
  induction ks with
  | nil => intro m _ k hk; simp at hk
  | cons x ks ih =>
    intro m h k hk
    obtain ⟨h1, h2, h3⟩ := leftK_cons h
    rcases List.mem_cons.1 hk with rfl | hk
    · exact ⟨m, Int.le_refl _, h2⟩
    · obtain ⟨m', g1, g2⟩ := ih (f x m) (by omega) k hk
      exact ⟨m', Int.le_trans g1 (hf x m), g2⟩
theorem encL_len (c n : Int) (b : Bool) (l : List UInt8) : (encL c b n l).length ≤ 10 + l.length := by
  unfold encL
  split
  · simp
  · have := len_bd (l.length : Int)
    simp only [List.length_cons, List.length_append]
    omega
theorem leftK_bytes {f : T → Int → Int} {g : T → List UInt8} (hg : ∀ k m, 0 ≤ f k m → ((g k).length : Int) ≤ 10 * (m - f k m)) : ∀ (ks : List T) (m : Int), 0 ≤ leftK f ks m → ((ks.flatMap g).length : Int) ≤ 10 * (m - leftK f ks m) := by
  intro ks
  induction ks with
  | nil => intro m _; simp [leftK]
  | cons k ks ih =>
    intro m h
    obtain ⟨h1, h2, h3⟩ := leftK_cons h
    rw [h3] at h ⊢
    have i1 := ih _ h
    have i2 := hg k m h2
    rw [List.flatMap_cons, List.length_append]
    omega
theorem left_bytes : ∀ (d : Nat) (t : T) (m : Int), 0 ≤ leftT d t m → ((bytesT d t).length : Int) ≤ 10 * (m - leftT d t m) := by
  intro d
  induction d with
  | zero =>
    intro t m h
    simp only [leftT, bytesT] at h ⊢
    have := encL_len t.cls t.num t.cons t.con
    omega
  | succ d ih =>
    intro t m h
    simp only [leftT, bytesT] at h ⊢
    have h1 := leftK_bytes (g := bytesT d) ih _ _ h
    have h2 := encL_len t.cls t.num t.cons (t.con ++ t.kids.flatMap (bytesT d))
    rw [List.length_append] at h2
    omega
theorem left_lens : ∀ (d : Nat) (t : T) (m : Int), m ≤ 100000 → 0 ≤ leftT d t m → LensOk d t := by
  intro d
  induction d with
  | zero =>
    intro t m hm h
    simp only [leftT] at h
    exact lenCode_ok (by omega) (by omega)
  | succ d ih =>
    intro t m hm h
    simp only [leftT] at h
    have h1 := leftK_bytes (g := bytesT d) (left_bytes d) _ _ h
    have h2 := leftK_le (leftT_le d) t.kids (m - 1 - t.con.length)
    refine ⟨lenCode_ok (by omega) (by rw [List.length_append]; omega), fun k hk => ?_⟩
    obtain ⟨m', g1, g2⟩ := leftK_mem (leftT_le d) _ _ h k hk
    exact ih k m' (by omega) g2
theorem depthT_le : ∀ (d : Nat) (t : T), depthT d t ≤ d + 1 := by
  intro d
  induction d with
  | zero => intro t; exact Nat.le_refl _
  | succ d ih =>
    intro t
    simp only [depthT]
    have : maxL (t.kids.map (depthT d)) ≤ d + 1 := maxL_le.2 (fun x hx => by obtain ⟨k, _, rfl⟩ := List.mem_map.1 hx; exact ih k)
    omega
/-- OF TWO TREES NONE HAS AN ENCODING THAT BEGINS WITH THE OTHER'S, unless they are equal -/
theorem bytes_prefix {d : Nat} {n m : T} {r : List UInt8} (fn : Fits d n) (fm : Fits d m) (sn : shapedT d n = true) (sm : shapedT d m = true) (ln : LensOk d n) (lm : LensOk d m) (h : bytesT d m = bytesT d n ++ r) : m = n ∧ r = [] := by
  have h1 := read_back d (d + 1) n fn sn ln (depthT_le d n) r
  have h2 := read_back d (d + 1) m fm sm lm (depthT_le d m) []
  rw [List.append_nil, h, h1] at h2
  injection h2 with e1 e2
  refine ⟨e1.symm, ?_⟩
  rw [List.length_append] at e2
  exact List.eq_nil_of_length_eq_zero (by omega)
end Go.Proofs.Ytoomdaljdbennaa.Tree
/- Walks: Depth of the package tree. -/
namespace Go.Proofs.Ytoomdaljdbennaa.Tree
open Go.RowKit Kit Tlv

theorem foldr_max (xs : List Nat) (x : Nat) : List.foldr max x xs = max (maxL xs) x := by
  induction xs with
  | nil => simp [maxL]
  | cons y ys ih =>
    have e : maxL (y :: ys) = max y (maxL ys) := rfl
    rw [List.foldr_cons, ih, e]
    omega
theorem maxL_snoc (xs : List Nat) (x : Nat) : maxL (xs ++ [x]) = max (maxL xs) x := by
  unfold maxL
  rw [List.foldr_append]
  simp only [List.foldr_cons, List.foldr_nil]
  rw [foldr_max]
  unfold maxL
  omega
/-- a kid in memory, a node by itself -/
theorem kid_full {d : Nat} {w : World} {P : Nat → Prop} {K : Option Addr} {xs : List Value} {ts : List T} {i : Nat} {t : T} (hc : CellsP w P K xs) (hr : RowR (NodeR d w P) ts xs) (hi : ts[i]? = some t) :
    ∃ (g : Addr) (A : Option Addr) (c : Nat) (K2 : Option Addr) (ck : Nat), K = some g ∧ P g.block ∧ w.cell? (g.add (i * 5)) = some (.int .i64 t.cls) ∧ w.cell? ⟨(g.add (i * 5)).block, (g.add (i * 5)).off + 1, none⟩ = some (.int .i64 t.num) ∧ w.cell? ⟨(g.add (i * 5)).block, (g.add (i * 5)).off + 2, none⟩ = some (.bool t.cons) ∧
      w.cell? ⟨(g.add (i * 5)).block, (g.add (i * 5)).off + 3, none⟩ = some (.slice A t.con.length c) ∧ w.cell? ⟨(g.add (i * 5)).block, (g.add (i * 5)).off + 4, none⟩ = some (.slice K2 t.kids.length ck) ∧ NodeR d w P (.agg #[.int .i64 t.cls, .int .i64 t.num, .bool t.cons, .slice A t.con.length c, .slice K2 t.kids.length ck]) t := by
  obtain ⟨x0, x1, x2, x3, x4, hn, i0, i1, i2, i3, i4⟩ := RowR.at_ hr hi
  have hn' := hn
  obtain ⟨A, c, K2, ck, he, h2, h3, h4⟩ := hn.form
  simp only [nodeV, Value.agg.injEq, Array.mk.injEq, List.cons.injEq, and_true] at he
  obtain ⟨rfl, rfl, rfl, rfl, rfl⟩ := he
  obtain ⟨g, rfl, hg, c0⟩ := hc _ _ i0
  obtain ⟨g1, e1, -, c1⟩ := hc _ _ i1
  obtain ⟨g2, e2, -, c2⟩ := hc _ _ i2
  obtain ⟨g3, e3, -, c3⟩ := hc _ _ i3
  obtain ⟨g4, e4, -, c4⟩ := hc _ _ i4
  simp only [Option.some.injEq] at e1 e2 e3 e4
  subst e1 e2 e3 e4
  refine ⟨_, A, c, K2, ck, rfl, hg, ?_, ?_, ?_, ?_, ?_, hn'⟩
  · exact c0
  · rw [← add_plus _ _ _ (by omega)]; exact c1
  · rw [← add_plus _ _ _ (by omega)]; exact c2
  · rw [← add_plus _ _ _ (by omega)]; exact c3
  · rw [← add_plus _ _ _ (by omega)]; exact c4
theorem count_kid {d : Nat} {t k : T} (hk : k ∈ t.kids) : countT d k < countT (d + 1) t := by
  simp only [countT]
  have : ∀ (ks : List T), k ∈ ks → countT d k ≤ (ks.map (countT d)).sum := by
    intro ks
    induction ks with
    | nil => intro h; simp at h
    | cons x xs ih =>
      intro h
      simp only [List.map_cons, List.sum_cons]
      rcases List.mem_cons.1 h with rfl | h
      · omega
      · have := ih h; omega
  have := this t.kids hk
  omega
theorem depth_count : ∀ (d : Nat) (t : T), depthT d t ≤ countT d t := by
  intro d
  induction d with
  | zero => intro t; exact Nat.le_refl _
  | succ d ih =>
    intro t
    simp only [depthT, countT]
    have h : maxL (t.kids.map (depthT d)) ≤ (t.kids.map (countT d)).sum := by
      refine maxL_le.2 (fun x hx => ?_)
      obtain ⟨y, hy, rfl⟩ := List.mem_map.1 hx
      have h1 := count_kid (d := d) hy
      simp only [countT] at h1
      have := ih y
      omega
    omega
theorem count_pos (d : Nat) (t : T) : 1 ≤ countT d t := by cases d <;> simp [countT]
theorem count_kids {d : Nat} {t : T} : t.kids.length < countT (d + 1) t := by
  simp only [countT]
  have : ∀ (ks : List T), ks.length ≤ (ks.map (countT d)).sum := by
    intro ks
    induction ks with
    | nil => simp
    | cons x xs ih => simp only [List.length_cons, List.map_cons, List.sum_cons]; have := count_pos d x; omega
  have := this t.kids
  omega
/-- where the loop of Depth stands -/
def DepL (d : Nat) (w : World) (N : Array Value) (gk : List T) (m i : Value) (wr : World) : Prop :=
  ∃ k : Nat, i = .int .i64 (k : Int) ∧ k ≤ gk.length ∧ m = .int .i64 ((maxL ((gk.take k).map (depthT d)) : Nat) : Int) ∧ wr.heap[w.heap.size]? = some (.cells N 26 (0, 0)) ∧ Below w.heap.size w wr

set_option maxRecDepth 100000 in
set_option maxHeartbeats 4000000 in
theorem depth_succ (d : Nat)
    (ih : ∀ (w : World) (P : Nat → Prop) (v : Value) (t : T), NodeR d w P v t → (∀ b, P b → b < w.heap.size) → countT d t ≤ 1000000 → Calls Try.prog 21 #[v] w fun e w' => e = .returned (.int .i64 ((depthT d t : Nat) : Int)) ∧ Below w.heap.size w w')
    (w : World) (P : Nat → Prop) (v : Value) (t : T) (hn : NodeR (d + 1) w P v t) (hP : ∀ b, P b → b < w.heap.size) (hc : countT (d + 1) t ≤ 1000000) :
    Calls Try.prog 21 #[v] w fun e w' => e = .returned (.int .i64 ((depthT (d + 1) t : Nat) : Int)) ∧ Below w.heap.size w w' := by
  obtain ⟨g1, g2, g3, gc, gk⟩ := t
  obtain ⟨A6, c6, K6, ck6, xs, rfl, -, -, -, hcp, hrow⟩ := hn
  have HX := Lib.hid hcp
  have HY := Lib.hid hrow
  have IH := Lib.hid ih
  have hlen : gk.length < countT (d + 1) (.mk g1 g2 g3 gc gk) := count_kids (d := d) (t := .mk g1 g2 g3 gc gk)
  have CK := Lib.hid (fun (k : T) (hk : k ∈ gk) => Nat.lt_of_lt_of_le (count_kid (d := d) (t := .mk g1 g2 g3 gc gk) hk) hc)
  have DE := Lib.hid (show depthT (d + 1) (.mk g1 g2 g3 gc gk) = 1 + maxL (gk.map (depthT d)) from rfl)
  have hgl : gk.length ≤ 1000000 := by omega
  have DB := Lib.hid (fun k : Nat => (maxL_le (xs := (gk.take k).map (depthT d)) (n := 1000000)).2 (fun x hx => by obtain ⟨y, hy, rfl⟩ := List.mem_map.1 hx; have := CK.out y (List.mem_of_mem_take hy); have := depth_count d y; omega))
  generalize depthT (d + 1) (.mk g1 g2 g3 gc gk) = R at *
  clear ih hcp hrow hlen hc
  simp only [nodeV, T.cls, T.num, T.cons, T.con, T.kids]
  go_enter Try.func21, Try.ntmps21
  go_wp2
  go_loopw [3, 9] (fun m i wr => DepL d w #[.int .i64 g1, .int .i64 g2, .bool g3, .slice A6 gc.length c6, .slice K6 gk.length ck6] gk m i wr) (fun _ i _ => gk.length - (intOf i).toNat)
  case atStart => exact ⟨0, rfl, Nat.zero_le _, by simp [maxL], bk_new rfl, (by repeat' (first | (with_reducible exact Below.refl _ _) | (with_reducible assumption) | (with_reducible refine below_drewN ?_ _) | (with_reducible refine Below.drew ?_) | (with_reducible refine Below.alloc ?_ ?_ _) | (with_reducible refine Below.setCell ?_ ?_ _) | go_size))⟩
  case round =>
    obtain ⟨k, rfl, hk, rfl, h1, hb⟩ := hrel
    have T1 := Lib.hid h1
    have BE := Lib.hid hb
    obtain ⟨u0, u1, u2, u3, u4⟩ := cells5 h1
    clear h1
    by_cases hlt : k < gk.length
    · have hkz : (k : Int) < (gk.length : Int) := by omega
      have hit : gk[k]? = some gk[k] := List.getElem?_eq_getElem hlt
      have hmem : gk[k] ∈ gk := List.getElem_mem hlt
      have kp := Keeps.below hb hP
      obtain ⟨g, A1, c1, K2, ck, hK, hg, x0, x1, x2, x3, x4, hnk⟩ := kid_full (HX.out.keep kp) (HY.out.imp (fun _ _ h => h.keep kp)) hit
      subst hK
      have ML := Lib.hid (show maxL ((gk.take (k + 1)).map (depthT d)) = max (maxL ((gk.take k).map (depthT d))) (depthT d gk[k]) from by
        rw [List.take_add_one, hit, List.map_append]; exact maxL_snoc _ _)
      have hck := CK.out _ hmem
      generalize gk[k] = t at *
      obtain ⟨k1, k2, k3, kc, kk⟩ := t
      simp only [T.cls, T.num, T.cons, T.con, T.kids] at x0 x1 x2 x3 x4 hnk
      have hgw := hP g.block hg
      have IK := Lib.hid (IH.out (wr.alloc (.cells #[.int .i64 k1, .int .i64 k2, .bool k3, .slice A1 kc.length c1, .slice K2 kk.length ck] 26)) P _ _ (hnk.keep (Keeps.alloc wr _ (fun b h => Nat.lt_of_lt_of_le (hP b h) hb.size))) (fun b h => by have := hP b h; have := hb.size; simp; omega) (by omega))
      have db := DB.out k
      have dk := Nat.le_trans (depth_count d (.mk k1 k2 k3 kc kk)) (Nat.le_of_lt hck)
      generalize depthT d (.mk k1 k2 k3 kc kk) = dp at *
      generalize maxL ((gk.take k).map (depthT d)) = mm at *
      have HB2 := Lib.hid (show Below w.heap.size w (wr.alloc (.cells #[.int .i64 k1, .int .i64 k2, .bool k3, .slice A1 kc.length c1, .slice K2 kk.length ck] 26)) from hb.alloc hb.size _)
      have T12 := Lib.hid (bk_old (o' := .cells #[.int .i64 k1, .int .i64 k2, .bool k3, .slice A1 kc.length c1, .slice K2 kk.length ck] 26) T1.out)
      clear hit hmem kp hnk hb CK IH DB
      go_wp2_with fail
      go_must (go_fit IK.out)
      rintro e w2 ⟨rfl, hb2⟩
      have T2 := Lib.hid (stayK T12.out hb2)
      have BE2 := Lib.hid (two_belowK HB2.out hb2 HB2.out.size)
      clear hb2 IK T12 HB2 u0 u1 u2 u3 u4 x0 x1 x2 x3 x4
      have REL : ∀ z : Int, z = ((max mm dp : Nat) : Int) → DepL d w #[.int .i64 g1, .int .i64 g2, .bool g3, .slice A6 gc.length c6, .slice (some g) gk.length ck6] gk (.int .i64 z) (.int .i64 ((k : Int) + 1)) w2 := by
        intro z hz
        exact ⟨k + 1, by rw [Int.natCast_add]; rfl, by omega, by rw [hz, ML.out], T2.out, BE2.out⟩
      have RL := Lib.hid REL
      clear REL
      go_wp2
      all_goals
        go_roundw
        case rel => exact RL.out _ (by omega)
        case measure => simp [intOf]; omega
    · obtain rfl : k = gk.length := by omega
      have db := DB.out gk.length
      have E := Lib.hid (show gk.map (depthT d) = (gk.take gk.length).map (depthT d) from by rw [List.take_length])
      rw [← E.out] at db ⊢
      rw [← E.out] at E
      generalize maxL (gk.map (depthT d)) = mm at *
      clear HX HY IH CK DB
      go_wp2
      go_ret
      exact ⟨by rw [DE.out, Int.natCast_add]; rfl, BE.out⟩

set_option maxRecDepth 100000 in
set_option maxHeartbeats 4000000 in
theorem depth_zero (w : World) (P : Nat → Prop) (v : Value) (t : T) (hn : NodeR 0 w P v t) : Calls Try.prog 21 #[v] w fun e w' => e = .returned (.int .i64 ((depthT 0 t : Nat) : Int)) ∧ Below w.heap.size w w' := by
  obtain ⟨g1, g2, g3, gc, gk⟩ := t
  obtain ⟨A6, c6, K6, ck6, rfl, -, -, -, hk⟩ := hn
  have hk' : gk = [] := hk
  subst hk'
  have DE := Lib.hid (show ((depthT 0 (.mk g1 g2 g3 gc []) : Nat) : Int) = 1 from rfl)
  generalize depthT 0 (.mk g1 g2 g3 gc []) = R at *
  simp only [nodeV, T.cls, T.num, T.cons, T.con, T.kids, List.length_nil]
  go_enter Try.func21, Try.ntmps21
  go_wp2
  go_loopw [3, 9] (fun m i wr => DepL 0 w #[.int .i64 g1, .int .i64 g2, .bool g3, .slice A6 gc.length c6, .slice K6 0 ck6] [] m i wr) (fun _ i _ => 0 - (intOf i).toNat)
  case atStart => exact ⟨0, rfl, Nat.zero_le _, by simp [maxL], bk_new rfl, (by repeat' (first | (with_reducible exact Below.refl _ _) | (with_reducible assumption) | (with_reducible refine below_drewN ?_ _) | (with_reducible refine Below.drew ?_) | (with_reducible refine Below.alloc ?_ ?_ _) | (with_reducible refine Below.setCell ?_ ?_ _) | go_size))⟩
  case round =>
    obtain ⟨k, rfl, hk, rfl, h1, hb⟩ := hrel
    obtain rfl : k = 0 := by simp only [List.length_nil] at hk; omega
    have BE := Lib.hid hb
    have e0 : ((maxL (([] : List T).take 0 |>.map (depthT 0)) : Nat) : Int) = 0 := by simp [maxL]
    rw [e0]
    clear hb h1 hk
    go_wp2
    go_ret
    exact ⟨by rw [DE.out]; rfl, BE.out⟩
/-- DEPTH, of any tree in memory -/
theorem depth_any : ∀ (d : Nat) (w : World) (P : Nat → Prop) (v : Value) (t : T), NodeR d w P v t → (∀ b, P b → b < w.heap.size) → countT d t ≤ 1000000 →
    Calls Try.prog 21 #[v] w fun e w' => e = .returned (.int .i64 ((depthT d t : Nat) : Int)) ∧ Below w.heap.size w w' := by
  intro d
  induction d with
  | zero => intro w P v t hn _ _; exact depth_zero w P v t hn
  | succ d ih => intro w P v t hn hP hc; exact depth_succ d ih w P v t hn hP hc
end Go.Proofs.Ytoomdaljdbennaa.Tree
/- Walks: Count of the package tree. -/
namespace Go.Proofs.Ytoomdaljdbennaa.Tree
open Go.RowKit Kit Tlv

/-- nodes of some kids -/
def sumT (d : Nat) (ks : List T) : Nat := (ks.map (countT d)).sum
theorem sumT_snoc (d : Nat) (ks : List T) (k : T) : sumT d (ks ++ [k]) = sumT d ks + countT d k := by unfold sumT; simp
theorem sumT_take (d : Nat) (ks : List T) (k : Nat) : sumT d (ks.take k) ≤ sumT d ks := by
  have : sumT d (ks.take k ++ ks.drop k) = sumT d (ks.take k) + sumT d (ks.drop k) := by unfold sumT; rw [List.map_append, List.sum_append]
  rw [List.take_append_drop] at this
  omega
/-- where the loop of Count stands -/
def CntL (d : Nat) (w : World) (N : Array Value) (gk : List T) (m i : Value) (wr : World) : Prop :=
  ∃ k : Nat, i = .int .i64 (k : Int) ∧ k ≤ gk.length ∧ m = .int .i64 (1 + (sumT d (gk.take k) : Int)) ∧ wr.heap[w.heap.size]? = some (.cells N 26 (0, 0)) ∧ Below w.heap.size w wr

set_option maxRecDepth 100000 in
set_option maxHeartbeats 4000000 in
theorem count_succ (d : Nat)
    (ih : ∀ (w : World) (P : Nat → Prop) (v : Value) (t : T), NodeR d w P v t → (∀ b, P b → b < w.heap.size) → countT d t ≤ 1000000 → Calls Try.prog 23 #[v] w fun e w' => e = .returned (.int .i64 ((countT d t : Nat) : Int)) ∧ Below w.heap.size w w')
    (w : World) (P : Nat → Prop) (v : Value) (t : T) (hn : NodeR (d + 1) w P v t) (hP : ∀ b, P b → b < w.heap.size) (hc : countT (d + 1) t ≤ 1000000) :
    Calls Try.prog 23 #[v] w fun e w' => e = .returned (.int .i64 ((countT (d + 1) t : Nat) : Int)) ∧ Below w.heap.size w w' := by
  obtain ⟨g1, g2, g3, gc, gk⟩ := t
  obtain ⟨A6, c6, K6, ck6, xs, rfl, -, -, -, hcp, hrow⟩ := hn
  have HX := Lib.hid hcp
  have HY := Lib.hid hrow
  have IH := Lib.hid ih
  have hlen : gk.length < countT (d + 1) (.mk g1 g2 g3 gc gk) := count_kids (d := d) (t := .mk g1 g2 g3 gc gk)
  have CK := Lib.hid (fun (k : T) (hk : k ∈ gk) => Nat.lt_of_lt_of_le (count_kid (d := d) (t := .mk g1 g2 g3 gc gk) hk) hc)
  have DE := Lib.hid (show countT (d + 1) (.mk g1 g2 g3 gc gk) = 1 + sumT d gk from rfl)
  have hgl : gk.length ≤ 1000000 := by omega
  have hsum : sumT d gk ≤ 1000000 := by have := DE.out; omega
  have DB := Lib.hid (fun k : Nat => Nat.le_trans (sumT_take d gk k) hsum)
  generalize countT (d + 1) (.mk g1 g2 g3 gc gk) = R at *
  clear ih hcp hrow hlen hc
  simp only [nodeV, T.cls, T.num, T.cons, T.con, T.kids]
  go_enter Try.func23, Try.ntmps23
  go_wp2
  go_loopw [3, 9] (fun m i wr => CntL d w #[.int .i64 g1, .int .i64 g2, .bool g3, .slice A6 gc.length c6, .slice K6 gk.length ck6] gk m i wr) (fun _ i _ => gk.length - (intOf i).toNat)
  case atStart => exact ⟨0, rfl, Nat.zero_le _, by simp [sumT], bk_new rfl, (by repeat' (first | (with_reducible exact Below.refl _ _) | (with_reducible assumption) | (with_reducible refine below_drewN ?_ _) | (with_reducible refine Below.drew ?_) | (with_reducible refine Below.alloc ?_ ?_ _) | (with_reducible refine Below.setCell ?_ ?_ _) | go_size))⟩
  case round =>
    obtain ⟨k, rfl, hk, rfl, h1, hb⟩ := hrel
    have T1 := Lib.hid h1
    have BE := Lib.hid hb
    obtain ⟨u0, u1, u2, u3, u4⟩ := cells5 h1
    clear h1
    by_cases hlt : k < gk.length
    · have hkz : (k : Int) < (gk.length : Int) := by omega
      have hit : gk[k]? = some gk[k] := List.getElem?_eq_getElem hlt
      have hmem : gk[k] ∈ gk := List.getElem_mem hlt
      have kp := Keeps.below hb hP
      obtain ⟨g, A1, c1, K2, ck, hK, hg, x0, x1, x2, x3, x4, hnk⟩ := kid_full (HX.out.keep kp) (HY.out.imp (fun _ _ h => h.keep kp)) hit
      subst hK
      have ML := Lib.hid (show sumT d (gk.take (k + 1)) = sumT d (gk.take k) + countT d gk[k] from by
        rw [List.take_add_one, hit]; exact sumT_snoc _ _ _)
      have hck := CK.out _ hmem
      generalize gk[k] = t at *
      obtain ⟨k1, k2, k3, kc, kk⟩ := t
      simp only [T.cls, T.num, T.cons, T.con, T.kids] at x0 x1 x2 x3 x4 hnk
      have hgw := hP g.block hg
      have IK := Lib.hid (IH.out (wr.alloc (.cells #[.int .i64 k1, .int .i64 k2, .bool k3, .slice A1 kc.length c1, .slice K2 kk.length ck] 26)) P _ _ (hnk.keep (Keeps.alloc wr _ (fun b h => Nat.lt_of_lt_of_le (hP b h) hb.size))) (fun b h => by have := hP b h; have := hb.size; simp; omega) (by omega))
      have db := DB.out k
      generalize countT d (.mk k1 k2 k3 kc kk) = dp at *
      generalize sumT d (gk.take k) = mm at *
      have HB2 := Lib.hid (show Below w.heap.size w (wr.alloc (.cells #[.int .i64 k1, .int .i64 k2, .bool k3, .slice A1 kc.length c1, .slice K2 kk.length ck] 26)) from hb.alloc hb.size _)
      have T12 := Lib.hid (bk_old (o' := .cells #[.int .i64 k1, .int .i64 k2, .bool k3, .slice A1 kc.length c1, .slice K2 kk.length ck] 26) T1.out)
      clear hit hmem kp hnk hb CK IH DB DE hsum
      go_wp2_with fail
      go_must (go_fit IK.out)
      rintro e w2 ⟨rfl, hb2⟩
      have T2 := Lib.hid (stayK T12.out hb2)
      have BE2 := Lib.hid (two_belowK HB2.out hb2 HB2.out.size)
      clear hb2 IK T12 HB2 u0 u1 u2 u3 u4 x0 x1 x2 x3 x4
      have REL : ∀ z : Int, z = 1 + (mm : Int) + (dp : Int) → CntL d w #[.int .i64 g1, .int .i64 g2, .bool g3, .slice A6 gc.length c6, .slice (some g) gk.length ck6] gk (.int .i64 z) (.int .i64 ((k : Int) + 1)) w2 := by
        intro z hz
        exact ⟨k + 1, by rw [Int.natCast_add]; rfl, by omega, by rw [hz, ML.out]; congr 1; omega, T2.out, BE2.out⟩
      have RL := Lib.hid REL
      clear REL
      go_wp2
      all_goals
        go_roundw
        case rel => exact RL.out _ (by omega)
        case measure => simp [intOf]; omega
    · obtain rfl : k = gk.length := by omega
      rw [List.take_length]
      generalize sumT d gk = mm at *
      clear HX HY IH CK DB
      go_wp2
      go_ret
      exact ⟨by rw [DE.out, Int.natCast_add]; rfl, BE.out⟩
set_option maxRecDepth 100000 in
set_option maxHeartbeats 4000000 in
theorem count_zero (w : World) (P : Nat → Prop) (v : Value) (t : T) (hn : NodeR 0 w P v t) : Calls Try.prog 23 #[v] w fun e w' => e = .returned (.int .i64 ((countT 0 t : Nat) : Int)) ∧ Below w.heap.size w w' := by
  obtain ⟨g1, g2, g3, gc, gk⟩ := t
  obtain ⟨A6, c6, K6, ck6, rfl, -, -, -, hk⟩ := hn
  have hk' : gk = [] := hk
  subst hk'
  have DE := Lib.hid (show ((countT 0 (.mk g1 g2 g3 gc []) : Nat) : Int) = 1 from rfl)
  generalize countT 0 (.mk g1 g2 g3 gc []) = R at *
  simp only [nodeV, T.cls, T.num, T.cons, T.con, T.kids, List.length_nil]
  go_enter Try.func23, Try.ntmps23
  go_wp2
  go_loopw [3, 9] (fun m i wr => CntL 0 w #[.int .i64 g1, .int .i64 g2, .bool g3, .slice A6 gc.length c6, .slice K6 0 ck6] [] m i wr) (fun _ i _ => 0 - (intOf i).toNat)
  case atStart => exact ⟨0, rfl, Nat.zero_le _, by simp [sumT], bk_new rfl, (by repeat' (first | (with_reducible exact Below.refl _ _) | (with_reducible assumption) | (with_reducible refine below_drewN ?_ _) | (with_reducible refine Below.drew ?_) | (with_reducible refine Below.alloc ?_ ?_ _) | (with_reducible refine Below.setCell ?_ ?_ _) | go_size))⟩
  case round =>
    obtain ⟨k, rfl, hk, rfl, h1, hb⟩ := hrel
    obtain rfl : k = 0 := by simp only [List.length_nil] at hk; omega
    have BE := Lib.hid hb
    have e0 : (1 : Int) + (sumT 0 (([] : List T).take 0) : Int) = 1 := by simp [sumT]
    rw [e0]
    clear hb h1 hk
    go_wp2
    go_ret
    exact ⟨by rw [DE.out]; rfl, BE.out⟩
/-- COUNT, of any tree in memory -/
theorem count_any : ∀ (d : Nat) (w : World) (P : Nat → Prop) (v : Value) (t : T), NodeR d w P v t → (∀ b, P b → b < w.heap.size) → countT d t ≤ 1000000 →
    Calls Try.prog 23 #[v] w fun e w' => e = .returned (.int .i64 ((countT d t : Nat) : Int)) ∧ Below w.heap.size w w' := by
  intro d
  induction d with
  | zero => intro w P v t hn _ _; exact count_zero w P v t hn
  | succ d ih => intro w P v t hn hP hc; exact count_succ d ih w P v t hn hP hc
end Go.Proofs.Ytoomdaljdbennaa.Tree
/- Walks: Depth of the reference. -/
namespace Go.Proofs.Ytoomdaljdbennaa.Tree
open Go.RowKit Kit Tlv

/-- where the loop of the reference's Depth stands -/
def DepR (d : Nat) (w : World) (N : Array Value) (gk : List T) (m i : Value) (wr : World) : Prop :=
  ∃ k : Nat, i = .int .i64 (k : Int) ∧ k ≤ gk.length ∧ m = .int .i64 (1 + ((maxL ((gk.take k).map (depthT d)) : Nat) : Int)) ∧ wr.heap[w.heap.size]? = some (.cells N 26 (0, 0)) ∧ Below w.heap.size w wr

set_option maxRecDepth 100000 in
set_option maxHeartbeats 4000000 in
theorem refdepth_succ (d : Nat)
    (ih : ∀ (w : World) (P : Nat → Prop) (v : Value) (t : T), NodeR d w P v t → (∀ b, P b → b < w.heap.size) → countT d t ≤ 1000000 → Calls Try.prog 22 #[v] w fun e w' => e = .returned (.int .i64 ((depthT d t : Nat) : Int)) ∧ Below w.heap.size w w')
    (w : World) (P : Nat → Prop) (v : Value) (t : T) (hn : NodeR (d + 1) w P v t) (hP : ∀ b, P b → b < w.heap.size) (hc : countT (d + 1) t ≤ 1000000) :
    Calls Try.prog 22 #[v] w fun e w' => e = .returned (.int .i64 ((depthT (d + 1) t : Nat) : Int)) ∧ Below w.heap.size w w' := by
  obtain ⟨g1, g2, g3, gc, gk⟩ := t
  obtain ⟨A6, c6, K6, ck6, xs, rfl, -, -, -, hcp, hrow⟩ := hn
  have HX := Lib.hid hcp
  have HY := Lib.hid hrow
  have IH := Lib.hid ih
  have hlen : gk.length < countT (d + 1) (.mk g1 g2 g3 gc gk) := count_kids (d := d) (t := .mk g1 g2 g3 gc gk)
  have CK := Lib.hid (fun (k : T) (hk : k ∈ gk) => Nat.lt_of_lt_of_le (count_kid (d := d) (t := .mk g1 g2 g3 gc gk) hk) hc)
  have DE := Lib.hid (show depthT (d + 1) (.mk g1 g2 g3 gc gk) = 1 + maxL (gk.map (depthT d)) from rfl)
  have hgl : gk.length ≤ 1000000 := by omega
  have DB := Lib.hid (fun k : Nat => (maxL_le (xs := (gk.take k).map (depthT d)) (n := 1000000)).2 (fun x hx => by obtain ⟨y, hy, rfl⟩ := List.mem_map.1 hx; have := CK.out y (List.mem_of_mem_take hy); have := depth_count d y; omega))
  generalize depthT (d + 1) (.mk g1 g2 g3 gc gk) = R at *
  clear ih hcp hrow hlen hc
  simp only [nodeV, T.cls, T.num, T.cons, T.con, T.kids]
  go_enter Try.func22, Try.ntmps22
  go_wp2
  go_loopw [3, 4] (fun m i wr => DepR d w #[.int .i64 g1, .int .i64 g2, .bool g3, .slice A6 gc.length c6, .slice K6 gk.length ck6] gk m i wr) (fun _ i _ => gk.length - (intOf i).toNat)
  case atStart => exact ⟨0, rfl, Nat.zero_le _, by simp [maxL], bk_new rfl, (by repeat' (first | (with_reducible exact Below.refl _ _) | (with_reducible assumption) | (with_reducible refine below_drewN ?_ _) | (with_reducible refine Below.drew ?_) | (with_reducible refine Below.alloc ?_ ?_ _) | (with_reducible refine Below.setCell ?_ ?_ _) | go_size))⟩
  case round =>
    obtain ⟨k, rfl, hk, rfl, h1, hb⟩ := hrel
    have T1 := Lib.hid h1
    have BE := Lib.hid hb
    obtain ⟨u0, u1, u2, u3, u4⟩ := cells5 h1
    clear h1
    by_cases hlt : k < gk.length
    · have hkz : (k : Int) < (gk.length : Int) := by omega
      have hit : gk[k]? = some gk[k] := List.getElem?_eq_getElem hlt
      have hmem : gk[k] ∈ gk := List.getElem_mem hlt
      have kp := Keeps.below hb hP
      obtain ⟨g, A1, c1, K2, ck, hK, hg, x0, x1, x2, x3, x4, hnk⟩ := kid_full (HX.out.keep kp) (HY.out.imp (fun _ _ h => h.keep kp)) hit
      subst hK
      have ML := Lib.hid (show maxL ((gk.take (k + 1)).map (depthT d)) = max (maxL ((gk.take k).map (depthT d))) (depthT d gk[k]) from by
        rw [List.take_add_one, hit, List.map_append]; exact maxL_snoc _ _)
      have hck := CK.out _ hmem
      generalize gk[k] = t at *
      obtain ⟨k1, k2, k3, kc, kk⟩ := t
      simp only [T.cls, T.num, T.cons, T.con, T.kids] at x0 x1 x2 x3 x4 hnk
      have hgw := hP g.block hg
      have IK := Lib.hid (IH.out wr P _ _ hnk (fun b h => by have := hP b h; have := hb.size; omega) (by omega))
      have db := DB.out k
      have dk := Nat.le_trans (depth_count d (.mk k1 k2 k3 kc kk)) (Nat.le_of_lt hck)
      generalize depthT d (.mk k1 k2 k3 kc kk) = dp at *
      generalize maxL ((gk.take k).map (depthT d)) = mm at *
      clear hit hmem kp hnk hb CK IH DB
      go_wp2_with fail
      go_must (go_fit IK.out)
      rintro e w2 ⟨rfl, hb2⟩
      have T2 := Lib.hid (stayK T1.out hb2)
      have BE2 := Lib.hid (two_belowK BE.out hb2 BE.out.size)
      clear hb2 IK T1 u0 u1 u2 u3 u4 x0 x1 x2 x3 x4
      have REL : ∀ z : Int, z = 1 + ((max mm dp : Nat) : Int) → DepR d w #[.int .i64 g1, .int .i64 g2, .bool g3, .slice A6 gc.length c6, .slice (some g) gk.length ck6] gk (.int .i64 z) (.int .i64 ((k : Int) + 1)) w2 := by
        intro z hz
        exact ⟨k + 1, by rw [Int.natCast_add]; rfl, by omega, by rw [hz, ML.out], T2.out, BE2.out⟩
      have RL := Lib.hid REL
      clear REL
      go_wp2
      all_goals
        go_roundw
        case rel => exact RL.out _ (by omega)
        case measure => simp [intOf]; omega
    · obtain rfl : k = gk.length := by omega
      have db := DB.out gk.length
      have E := Lib.hid (show gk.map (depthT d) = (gk.take gk.length).map (depthT d) from by rw [List.take_length])
      rw [← E.out] at db ⊢
      rw [← E.out] at E
      generalize maxL (gk.map (depthT d)) = mm at *
      clear HX HY IH CK DB
      go_wp2
      go_ret
      exact ⟨by rw [DE.out, Int.natCast_add]; rfl, BE.out⟩

set_option maxRecDepth 100000 in
set_option maxHeartbeats 4000000 in
theorem refdepth_zero (w : World) (P : Nat → Prop) (v : Value) (t : T) (hn : NodeR 0 w P v t) : Calls Try.prog 22 #[v] w fun e w' => e = .returned (.int .i64 ((depthT 0 t : Nat) : Int)) ∧ Below w.heap.size w w' := by
  obtain ⟨g1, g2, g3, gc, gk⟩ := t
  obtain ⟨A6, c6, K6, ck6, rfl, -, -, -, hk⟩ := hn
  have hk' : gk = [] := hk
  subst hk'
  have DE := Lib.hid (show ((depthT 0 (.mk g1 g2 g3 gc []) : Nat) : Int) = 1 from rfl)
  generalize depthT 0 (.mk g1 g2 g3 gc []) = R at *
  simp only [nodeV, T.cls, T.num, T.cons, T.con, T.kids, List.length_nil]
  go_enter Try.func22, Try.ntmps22
  go_wp2
  go_loopw [3, 4] (fun m i wr => DepR 0 w #[.int .i64 g1, .int .i64 g2, .bool g3, .slice A6 gc.length c6, .slice K6 0 ck6] [] m i wr) (fun _ i _ => 0 - (intOf i).toNat)
  case atStart => exact ⟨0, rfl, Nat.zero_le _, by simp [maxL], bk_new rfl, (by repeat' (first | (with_reducible exact Below.refl _ _) | (with_reducible assumption) | (with_reducible refine below_drewN ?_ _) | (with_reducible refine Below.drew ?_) | (with_reducible refine Below.alloc ?_ ?_ _) | (with_reducible refine Below.setCell ?_ ?_ _) | go_size))⟩
  case round =>
    obtain ⟨k, rfl, hk, rfl, h1, hb⟩ := hrel
    obtain rfl : k = 0 := by simp only [List.length_nil] at hk; omega
    have BE := Lib.hid hb
    have e0 : (1 : Int) + ((maxL (([] : List T).take 0 |>.map (depthT 0)) : Nat) : Int) = 1 := by simp [maxL]
    rw [e0]
    obtain ⟨u0, u1, u2, u3, u4⟩ := cells5 h1
    clear hb h1 hk
    go_wp2
    go_ret
    exact ⟨by rw [DE.out]; rfl, BE.out⟩
/-- the reference's DEPTH -/
theorem refdepth_any : ∀ (d : Nat) (w : World) (P : Nat → Prop) (v : Value) (t : T), NodeR d w P v t → (∀ b, P b → b < w.heap.size) → countT d t ≤ 1000000 →
    Calls Try.prog 22 #[v] w fun e w' => e = .returned (.int .i64 ((depthT d t : Nat) : Int)) ∧ Below w.heap.size w w' := by
  intro d
  induction d with
  | zero => intro w P v t hn _ _; exact refdepth_zero w P v t hn
  | succ d ih => intro w P v t hn hP hc; exact refdepth_succ d ih w P v t hn hP hc
end Go.Proofs.Ytoomdaljdbennaa.Tree
/- Walks: Count of the reference. -/
namespace Go.Proofs.Ytoomdaljdbennaa.Tree
open Go.RowKit Kit Tlv

/-- where the loop of the reference's Count stands -/
def CntR (d : Nat) (w : World) (N : Array Value) (gk : List T) (m i : Value) (wr : World) : Prop :=
  ∃ k : Nat, i = .int .i64 (k : Int) ∧ k ≤ gk.length ∧ m = .int .i64 (1 + (sumT d (gk.take k) : Int)) ∧ wr.heap[w.heap.size]? = some (.cells N 26 (0, 0)) ∧ Below w.heap.size w wr

set_option maxRecDepth 100000 in
set_option maxHeartbeats 4000000 in
theorem refcount_succ (d : Nat)
    (ih : ∀ (w : World) (P : Nat → Prop) (v : Value) (t : T), NodeR d w P v t → (∀ b, P b → b < w.heap.size) → countT d t ≤ 1000000 → Calls Try.prog 24 #[v] w fun e w' => e = .returned (.int .i64 ((countT d t : Nat) : Int)) ∧ Below w.heap.size w w')
    (w : World) (P : Nat → Prop) (v : Value) (t : T) (hn : NodeR (d + 1) w P v t) (hP : ∀ b, P b → b < w.heap.size) (hc : countT (d + 1) t ≤ 1000000) :
    Calls Try.prog 24 #[v] w fun e w' => e = .returned (.int .i64 ((countT (d + 1) t : Nat) : Int)) ∧ Below w.heap.size w w' := by
  obtain ⟨g1, g2, g3, gc, gk⟩ := t
  obtain ⟨A6, c6, K6, ck6, xs, rfl, -, -, -, hcp, hrow⟩ := hn
  have HX := Lib.hid hcp
  have HY := Lib.hid hrow
  have IH := Lib.hid ih
  have hlen : gk.length < countT (d + 1) (.mk g1 g2 g3 gc gk) := count_kids (d := d) (t := .mk g1 g2 g3 gc gk)
  have CK := Lib.hid (fun (k : T) (hk : k ∈ gk) => Nat.lt_of_lt_of_le (count_kid (d := d) (t := .mk g1 g2 g3 gc gk) hk) hc)
  have DE := Lib.hid (show countT (d + 1) (.mk g1 g2 g3 gc gk) = 1 + sumT d gk from rfl)
  have hgl : gk.length ≤ 1000000 := by omega
  have hsum : sumT d gk ≤ 1000000 := by have := DE.out; omega
  have DB := Lib.hid (fun k : Nat => Nat.le_trans (sumT_take d gk k) hsum)
  generalize countT (d + 1) (.mk g1 g2 g3 gc gk) = R at *
  clear ih hcp hrow hlen hc
  simp only [nodeV, T.cls, T.num, T.cons, T.con, T.kids]
  go_enter Try.func24, Try.ntmps24
  go_wp2
  go_loopw [3, 4] (fun m i wr => CntR d w #[.int .i64 g1, .int .i64 g2, .bool g3, .slice A6 gc.length c6, .slice K6 gk.length ck6] gk m i wr) (fun _ i _ => gk.length - (intOf i).toNat)
  case atStart => exact ⟨0, rfl, Nat.zero_le _, by simp [sumT], bk_new rfl, (by repeat' (first | (with_reducible exact Below.refl _ _) | (with_reducible assumption) | (with_reducible refine below_drewN ?_ _) | (with_reducible refine Below.drew ?_) | (with_reducible refine Below.alloc ?_ ?_ _) | (with_reducible refine Below.setCell ?_ ?_ _) | go_size))⟩
  case round =>
    obtain ⟨k, rfl, hk, rfl, h1, hb⟩ := hrel
    have T1 := Lib.hid h1
    have BE := Lib.hid hb
    obtain ⟨u0, u1, u2, u3, u4⟩ := cells5 h1
    clear h1
    by_cases hlt : k < gk.length
    · have hkz : (k : Int) < (gk.length : Int) := by omega
      have hit : gk[k]? = some gk[k] := List.getElem?_eq_getElem hlt
      have hmem : gk[k] ∈ gk := List.getElem_mem hlt
      have kp := Keeps.below hb hP
      obtain ⟨g, A1, c1, K2, ck, hK, hg, x0, x1, x2, x3, x4, hnk⟩ := kid_full (HX.out.keep kp) (HY.out.imp (fun _ _ h => h.keep kp)) hit
      subst hK
      have ML := Lib.hid (show sumT d (gk.take (k + 1)) = sumT d (gk.take k) + countT d gk[k] from by
        rw [List.take_add_one, hit]; exact sumT_snoc _ _ _)
      have hck := CK.out _ hmem
      generalize gk[k] = t at *
      obtain ⟨k1, k2, k3, kc, kk⟩ := t
      simp only [T.cls, T.num, T.cons, T.con, T.kids] at x0 x1 x2 x3 x4 hnk
      have hgw := hP g.block hg
      have IK := Lib.hid (IH.out wr P _ _ hnk (fun b h => by have := hP b h; have := hb.size; omega) (by omega))
      have db := DB.out k
      generalize countT d (.mk k1 k2 k3 kc kk) = dp at *
      generalize sumT d (gk.take k) = mm at *
      clear hit hmem kp hnk hb CK IH DB DE hsum
      go_wp2_with fail
      go_must (go_fit IK.out)
      rintro e w2 ⟨rfl, hb2⟩
      have T2 := Lib.hid (stayK T1.out hb2)
      have BE2 := Lib.hid (two_belowK BE.out hb2 BE.out.size)
      clear hb2 IK T1 u0 u1 u2 u3 u4 x0 x1 x2 x3 x4
      have REL : ∀ z : Int, z = 1 + (mm : Int) + (dp : Int) → CntR d w #[.int .i64 g1, .int .i64 g2, .bool g3, .slice A6 gc.length c6, .slice (some g) gk.length ck6] gk (.int .i64 z) (.int .i64 ((k : Int) + 1)) w2 := by
        intro z hz
        exact ⟨k + 1, by rw [Int.natCast_add]; rfl, by omega, by rw [hz, ML.out]; congr 1; omega, T2.out, BE2.out⟩
      have RL := Lib.hid REL
      clear REL
      go_wp2
      all_goals
        go_roundw
        case rel => exact RL.out _ (by omega)
        case measure => simp [intOf]; omega
    · obtain rfl : k = gk.length := by omega
      rw [List.take_length]
      generalize sumT d gk = mm at *
      clear HX HY IH CK DB
      go_wp2
      go_ret
      exact ⟨by rw [DE.out, Int.natCast_add]; rfl, BE.out⟩
set_option maxRecDepth 100000 in
set_option maxHeartbeats 4000000 in
theorem refcount_zero (w : World) (P : Nat → Prop) (v : Value) (t : T) (hn : NodeR 0 w P v t) : Calls Try.prog 24 #[v] w fun e w' => e = .returned (.int .i64 ((countT 0 t : Nat) : Int)) ∧ Below w.heap.size w w' := by
  obtain ⟨g1, g2, g3, gc, gk⟩ := t
  obtain ⟨A6, c6, K6, ck6, rfl, -, -, -, hk⟩ := hn
  have hk' : gk = [] := hk
  subst hk'
  have DE := Lib.hid (show ((countT 0 (.mk g1 g2 g3 gc []) : Nat) : Int) = 1 from rfl)
  generalize countT 0 (.mk g1 g2 g3 gc []) = R at *
  simp only [nodeV, T.cls, T.num, T.cons, T.con, T.kids, List.length_nil]
  go_enter Try.func24, Try.ntmps24
  go_wp2
  go_loopw [3, 4] (fun m i wr => CntR 0 w #[.int .i64 g1, .int .i64 g2, .bool g3, .slice A6 gc.length c6, .slice K6 0 ck6] [] m i wr) (fun _ i _ => 0 - (intOf i).toNat)
  case atStart => exact ⟨0, rfl, Nat.zero_le _, by simp [sumT], bk_new rfl, (by repeat' (first | (with_reducible exact Below.refl _ _) | (with_reducible assumption) | (with_reducible refine below_drewN ?_ _) | (with_reducible refine Below.drew ?_) | (with_reducible refine Below.alloc ?_ ?_ _) | (with_reducible refine Below.setCell ?_ ?_ _) | go_size))⟩
  case round =>
    obtain ⟨k, rfl, hk, rfl, h1, hb⟩ := hrel
    obtain rfl : k = 0 := by simp only [List.length_nil] at hk; omega
    have BE := Lib.hid hb
    have e0 : (1 : Int) + (sumT 0 (([] : List T).take 0) : Int) = 1 := by simp [sumT]
    rw [e0]
    obtain ⟨u0, u1, u2, u3, u4⟩ := cells5 h1
    clear hb h1 hk
    go_wp2
    go_ret
    exact ⟨by rw [DE.out]; rfl, BE.out⟩
/-- the reference's COUNT -/
theorem refcount_any : ∀ (d : Nat) (w : World) (P : Nat → Prop) (v : Value) (t : T), NodeR d w P v t → (∀ b, P b → b < w.heap.size) → countT d t ≤ 1000000 →
    Calls Try.prog 24 #[v] w fun e w' => e = .returned (.int .i64 ((countT d t : Nat) : Int)) ∧ Below w.heap.size w w' := by
  intro d
  induction d with
  | zero => intro w P v t hn _ _; exact refcount_zero w P v t hn
  | succ d ih => intro w P v t hn hP hc; exact refcount_succ d ih w P v t hn hP hc
end Go.Proofs.Ytoomdaljdbennaa.Tree
/- Walks: left of the reference (Few). -/
namespace Go.Proofs.Ytoomdaljdbennaa.Tree
open Go.RowKit Kit Tlv

theorem leftT_lt : ∀ (d : Nat) (t : T) (m : Int), leftT d t m ≤ m - 1 := by
  intro d
  cases d with
  | zero => intro t m; simp only [leftT]; omega
  | succ d => intro t m; simp only [leftT]; exact Int.le_trans (leftK_le (leftT_le d) _ _) (by omega)
/-- where the loop of left stands -/
def LefL (d : Nat) (w : World) (N : Array Value) (gk : List T) (R : Int) (m i : Value) (wr : World) : Prop :=
  ∃ (k : Nat) (mm : Int), i = .int .i64 (k : Int) ∧ k ≤ gk.length ∧ m = .int .i64 mm ∧ leftK (leftT d) (gk.drop k) mm = R ∧ mm + (k : Int) ≤ 1000000 ∧ wr.heap[w.heap.size]? = some (.cells N 26 (0, 0)) ∧ Below w.heap.size w wr

set_option maxRecDepth 100000 in
set_option maxHeartbeats 4000000 in
theorem left_succ (d : Nat)
    (ih : ∀ (w : World) (P : Nat → Prop) (v : Value) (t : T) (m : Int), NodeR d w P v t → (∀ b, P b → b < w.heap.size) → 0 ≤ m → m ≤ 1000000 → Calls Try.prog 30 #[v, .int .i64 m] w fun e w' => e = .returned (.int .i64 (leftT d t m)) ∧ Below w.heap.size w w')
    (w : World) (P : Nat → Prop) (v : Value) (t : T) (m : Int) (hn : NodeR (d + 1) w P v t) (hP : ∀ b, P b → b < w.heap.size) (hm0 : 0 ≤ m) (hm1 : m ≤ 1000000) :
    Calls Try.prog 30 #[v, .int .i64 m] w fun e w' => e = .returned (.int .i64 (leftT (d + 1) t m)) ∧ Below w.heap.size w w' := by
  obtain ⟨g1, g2, g3, gc, gk⟩ := t
  obtain ⟨A6, c6, K6, ck6, xs, rfl, -, hc1, hc2, hcp, hrow⟩ := hn
  have HX := Lib.hid hcp
  have HY := Lib.hid hrow
  have IH := Lib.hid ih
  have hcl : (gc.length : Int) ≤ 9223372036854775807 := by
    have h1 : gc.length ≤ c6 := hc1
    unfold maxLen at hc2
    omega
  obtain ⟨R, hR⟩ : ∃ R, leftT (d + 1) (.mk g1 g2 g3 gc gk) m = R := ⟨_, rfl⟩
  rw [hR]
  have R0 := Lib.hid (show leftK (leftT d) gk (m - 1 - gc.length) = R from hR)
  clear ih hcp hrow hc1 hc2 hR
  simp only [nodeV, T.cls, T.num, T.cons, T.con, T.kids]
  go_enter Try.func30, Try.ntmps30
  go_wp2
  go_loopw [1, 5] (fun m i wr => LefL d w #[.int .i64 g1, .int .i64 g2, .bool g3, .slice A6 gc.length c6, .slice K6 gk.length ck6] gk R m i wr) (fun _ i _ => gk.length - (intOf i).toNat)
  case atStart => exact ⟨0, m - 1 - gc.length, rfl, Nat.zero_le _, rfl, R0.out, by omega, bk_new rfl, (by repeat' (first | (with_reducible exact Below.refl _ _) | (with_reducible assumption) | (with_reducible refine below_drewN ?_ _) | (with_reducible refine Below.drew ?_) | (with_reducible refine Below.alloc ?_ ?_ _) | (with_reducible refine Below.setCell ?_ ?_ _) | go_size))⟩
  case round =>
    obtain ⟨k, mm, rfl, hk, rfl, hR, hmk, h1, hb⟩ := hrel
    have T1 := Lib.hid h1
    have BE := Lib.hid hb
    have HR := Lib.hid hR
    obtain ⟨u0, u1, u2, u3, u4⟩ := cells5 h1
    clear h1 hR R0
    by_cases hlt : k < gk.length
    · have hkz : (k : Int) < (gk.length : Int) := by omega
      by_cases hmm : 0 ≤ mm
      · have hit : gk[k]? = some gk[k] := List.getElem?_eq_getElem hlt
        have kp := Keeps.below hb hP
        obtain ⟨g, A1, c1, K2, ck, hK, hg, x0, x1, x2, x3, x4, hnk⟩ := kid_full (HX.out.keep kp) (HY.out.imp (fun _ _ h => h.keep kp)) hit
        subst hK
        have ML := Lib.hid (show leftK (leftT d) (gk.drop (k + 1)) (leftT d gk[k] mm) = R from by
          have e := HR.out
          rw [List.drop_eq_getElem_cons hlt] at e
          simp only [leftK] at e
          rw [if_neg (by omega)] at e
          exact e)
        have hle := leftT_lt d gk[k] mm
        generalize gk[k] = t at *
        obtain ⟨k1, k2, k3, kc, kk⟩ := t
        simp only [T.cls, T.num, T.cons, T.con, T.kids] at x0 x1 x2 x3 x4 hnk
        have hgw := hP g.block hg
        have IK := Lib.hid (IH.out wr P _ _ mm hnk (fun b h => by have := hP b h; have := hb.size; omega) hmm (by omega))
        generalize leftT d (.mk k1 k2 k3 kc kk) mm = dp at *
        clear hit kp hnk hb IH HR
        go_wp2_with fail
        go_must (go_fit IK.out)
        rintro e w2 ⟨rfl, hb2⟩
        have T2 := Lib.hid (stayK T1.out hb2)
        have BE2 := Lib.hid (two_belowK BE.out hb2 BE.out.size)
        clear hb2 IK T1 u0 u1 u2 u3 u4 x0 x1 x2 x3 x4
        have RL := Lib.hid (show LefL d w #[.int .i64 g1, .int .i64 g2, .bool g3, .slice A6 gc.length c6, .slice (some g) gk.length ck6] gk R (.int .i64 dp) (.int .i64 ((k : Int) + 1)) w2 from
          ⟨k + 1, dp, by rw [Int.natCast_add]; rfl, by omega, rfl, ML.out, by omega, T2.out, BE2.out⟩)
        go_wp2
        go_roundw
        case rel => exact RL.out
        case measure => simp [intOf]; omega
      · have E := HR.out
        rw [leftK_neg _ _ (by omega)] at E
        subst E
        clear HX HY IH HR
        go_wp2
        go_ret
        exact ⟨rfl, BE.out⟩
    · obtain rfl : k = gk.length := by omega
      have E := HR.out
      rw [List.drop_length] at E
      have E' : mm = R := E
      subst E'
      clear HX HY IH HR E
      go_wp2
      go_ret
      exact ⟨rfl, BE.out⟩
set_option maxRecDepth 100000 in
set_option maxHeartbeats 4000000 in
theorem left_zero (w : World) (P : Nat → Prop) (v : Value) (t : T) (m : Int) (hn : NodeR 0 w P v t) (hm0 : 0 ≤ m) (hm1 : m ≤ 1000000) :
    Calls Try.prog 30 #[v, .int .i64 m] w fun e w' => e = .returned (.int .i64 (leftT 0 t m)) ∧ Below w.heap.size w w' := by
  obtain ⟨g1, g2, g3, gc, gk⟩ := t
  obtain ⟨A6, c6, K6, ck6, rfl, -, hc1, hc2, hk⟩ := hn
  have hk' : gk = [] := hk
  subst hk'
  have hcl : (gc.length : Int) ≤ 9223372036854775807 := by
    have h1 : gc.length ≤ c6 := hc1
    unfold maxLen at hc2
    omega
  obtain ⟨R, hR⟩ : ∃ R, leftT 0 (.mk g1 g2 g3 gc []) m = R := ⟨_, rfl⟩
  rw [hR]
  have R0 := Lib.hid (show m - 1 - gc.length = R from hR)
  clear hR hc1 hc2 hk
  simp only [nodeV, T.cls, T.num, T.cons, T.con, T.kids, List.length_nil]
  go_enter Try.func30, Try.ntmps30
  go_wp2
  go_loopw [1, 5] (fun m i wr => LefL 0 w #[.int .i64 g1, .int .i64 g2, .bool g3, .slice A6 gc.length c6, .slice K6 0 ck6] [] R m i wr) (fun _ i _ => 0 - (intOf i).toNat)
  case atStart => exact ⟨0, m - 1 - gc.length, rfl, Nat.zero_le _, rfl, R0.out, by omega, bk_new rfl, (by repeat' (first | (with_reducible exact Below.refl _ _) | (with_reducible assumption) | (with_reducible refine below_drewN ?_ _) | (with_reducible refine Below.drew ?_) | (with_reducible refine Below.alloc ?_ ?_ _) | (with_reducible refine Below.setCell ?_ ?_ _) | go_size))⟩
  case round =>
    obtain ⟨k, mm, rfl, hk, rfl, hR, hmk, h1, hb⟩ := hrel
    obtain rfl : k = 0 := by simp only [List.length_nil] at hk; omega
    have E' : mm = R := hR
    subst E'
    have BE := Lib.hid hb
    obtain ⟨u0, u1, u2, u3, u4⟩ := cells5 h1
    clear hb h1 hk hR R0
    go_wp2
    go_ret
    exact ⟨rfl, BE.out⟩
/-- LEFT, of any tree in memory -/
theorem left_any : ∀ (d : Nat) (w : World) (P : Nat → Prop) (v : Value) (t : T) (m : Int), NodeR d w P v t → (∀ b, P b → b < w.heap.size) → 0 ≤ m → m ≤ 1000000 →
    Calls Try.prog 30 #[v, .int .i64 m] w fun e w' => e = .returned (.int .i64 (leftT d t m)) ∧ Below w.heap.size w w' := by
  intro d
  induction d with
  | zero => intro w P v t m hn _ h0 h1; exact left_zero w P v t m hn h0 h1
  | succ d ih => intro w P v t m hn hP h0 h1; exact left_succ d ih w P v t m hn hP h0 h1
end Go.Proofs.Ytoomdaljdbennaa.Tree
/- Walks: Few of the reference. -/
namespace Go.Proofs.Ytoomdaljdbennaa.Tree
open Go.RowKit Kit Tlv

set_option maxHeartbeats 2000000 in
theorem few_any (d : Nat) (w : World) (P : Nat → Prop) (v : Value) (t : T) (m : Int) (hn : NodeR d w P v t) (hP : ∀ b, P b → b < w.heap.size) (hm0 : 0 ≤ m) (hm1 : m ≤ 1000000) :
    Calls Try.prog 15 #[v, .int .i64 m] w fun e w' => e = .returned (.bool (decide (0 ≤ leftT d t m))) ∧ Below w.heap.size w w' := by
  obtain ⟨A6, c6, K6, ck6, hv, -⟩ := hn.form
  subst hv
  obtain ⟨g1, g2, g3, gc, gk⟩ := t
  simp only [nodeV, T.cls, T.num, T.cons, T.con, T.kids] at hn ⊢
  have LF := Lib.hid (left_any d (w.alloc (.cells #[.int .i64 g1, .int .i64 g2, .bool g3, .slice A6 gc.length c6, .slice K6 gk.length ck6] 26)) P _ _ m (hn.keep (Keeps.alloc w _ hP)) (fun b h => by have := hP b h; simp; omega) hm0 hm1)
  generalize leftT d (.mk g1 g2 g3 gc gk) m = R at *
  have t1 : (w.alloc (.cells #[.int .i64 g1, .int .i64 g2, .bool g3, .slice A6 gc.length c6, .slice K6 gk.length ck6] 26)).heap[w.heap.size]? = _ := bk_new rfl
  obtain ⟨u0, u1, u2, u3, u4⟩ := cells5 t1
  clear t1 hn
  go_enter Try.func15, Try.ntmps15
  go_wp2_with fail
  go_must (go_fit LF.out)
  rintro e w1 ⟨rfl, hb1⟩
  have bel := bel1 hb1
  clear u0 u1 u2 u3 u4 hb1 LF
  go_wp2
  go_ret
  exact ⟨by first | rfl | exact ret_bool (by simp), bel⟩
end Go.Proofs.Ytoomdaljdbennaa.Tree
/- Walks: shaped of the reference. -/
namespace Go.Proofs.Ytoomdaljdbennaa.Tree
open Go.RowKit Kit Tlv

/-- a node of any number of levels, opened -/
theorem NodeR.open_ {d : Nat} {w : World} {P : Nat → Prop} {v : Value} {t : T} (h : NodeR d w P v t) :
    ∃ A c K ck xs, v = nodeV t A c K ck ∧ RdP w P A t.con.length t.con ∧ t.con.length ≤ c ∧ c ≤ maxLen ∧ CellsP w P K xs ∧ RowR (NodeR (d - 1) w P) t.kids xs := by
  cases d with
  | zero => obtain ⟨A, c, K, ck, h1, h2, h3, h4, h5⟩ := h; exact ⟨A, c, K, ck, [], h1, h2, h3, h4, (fun j u hj => by simp at hj), by rw [h5]; rfl⟩
  | succ d => exact h
theorem NodeR.leaf_kids {w : World} {P : Nat → Prop} {v : Value} {t : T} (h : NodeR 0 w P v t) : t.kids = [] := by
  obtain ⟨A, c, K, ck, h1, h2, h3, h4, h5⟩ := h; exact h5
theorem nodeOk_no {t : T} (h : nodeOk t = false) : idCode t.cls t.num ≠ 0 ∨ (t.cons = true ∧ 0 < t.con.length) ∨ (t.cons = false ∧ 0 < t.kids.length) := by
  obtain ⟨c, n, b, con, kids⟩ := t
  simp only [T.cls, T.num, T.cons, T.con, T.kids]
  by_cases h1 : idCode c n = 0
  · right
    have hn : ¬ (nodeOk (.mk c n b con kids) = true) := by rw [h]; simp
    rw [nodeOk_iff] at hn
    simp only [T.cls, T.num, T.cons, T.con, T.kids] at hn
    cases b with
    | true =>
      left
      refine ⟨rfl, ?_⟩
      rcases Nat.eq_zero_or_pos con.length with g | g
      · exact absurd ⟨h1, (fun _ => List.eq_nil_of_length_eq_zero g), (fun e => by cases e)⟩ hn
      · exact g
    | false =>
      right
      refine ⟨rfl, ?_⟩
      rcases Nat.eq_zero_or_pos kids.length with g | g
      · exact absurd ⟨h1, (fun e => by cases e), (fun _ => List.eq_nil_of_length_eq_zero g)⟩ hn
      · exact g
  · exact .inl h1
theorem shapedT_eq (d : Nat) (t : T) (h : d = 0 → t.kids = []) : shapedT d t = (nodeOk t && t.kids.all (shapedT (d - 1))) := by
  cases d with
  | zero => rw [h rfl]; simp [shapedT]
  | succ d => rfl
theorem all_more {f : T → Bool} {ks : List T} {k : Nat} (hk : k < ks.length) (h : (ks.take k).all f = true) (hf : f ks[k] = true) : (ks.take (k + 1)).all f = true := by
  rw [List.take_add_one, List.getElem?_eq_getElem hk, List.all_append, h]
  simp [hf]
theorem all_not {f : T → Bool} {ks : List T} {k : Nat} (hk : k < ks.length) (hf : f ks[k] = false) : ks.all f = false := by
  rw [List.all_eq_false]
  exact ⟨ks[k], List.getElem_mem hk, by simp [hf]⟩

set_option maxRecDepth 100000 in
set_option maxHeartbeats 4000000 in
theorem shaped_bad {A6 K6 : Option Addr} {c6 ck6 : Nat} (w : World) (t : T) (hno : nodeOk t = false) :
    Calls Try.prog 33 #[nodeV t A6 c6 K6 ck6] w fun e w' => e = .returned (.bool false) ∧ Below w.heap.size w w' := by
  have h3 := nodeOk_no hno
  clear hno
  obtain ⟨g1, g2, g3, gc, gk⟩ := t
  simp only [nodeV, T.cls, T.num, T.cons, T.con, T.kids] at h3 ⊢
  have ID := Lib.hid (fun w => refident_any g1 g2 g3 w)
  generalize idCode g1 g2 = ic at *
  generalize idByte g1 g3 g2 = ib at *
  by_cases hi : ic = 0
  · rcases h3 with h | ⟨rfl, h⟩ | ⟨rfl, h⟩
    · exact absurd hi h
    · have hz : (0 : Int) < (gc.length : Int) := by omega
      subst hi
      go_enter Try.func33, Try.ntmps33
      go_wp2_with (first | (go_at_call 34; go_must (go_fit (ID.out _)); rintro e w1 ⟨rfl, rfl⟩))
      go_ret
      exact ⟨rfl, (by repeat' (first | (with_reducible exact Below.refl _ _) | (with_reducible assumption) | (with_reducible refine below_drewN ?_ _) | (with_reducible refine Below.drew ?_) | (with_reducible refine Below.alloc ?_ ?_ _) | (with_reducible refine Below.setCell ?_ ?_ _) | go_size))⟩
    · have hz : (0 : Int) < (gk.length : Int) := by omega
      subst hi
      go_enter Try.func33, Try.ntmps33
      go_wp2_with (first | (go_at_call 34; go_must (go_fit (ID.out _)); rintro e w1 ⟨rfl, rfl⟩))
      go_ret
      exact ⟨rfl, (by repeat' (first | (with_reducible exact Below.refl _ _) | (with_reducible assumption) | (with_reducible refine below_drewN ?_ _) | (with_reducible refine Below.drew ?_) | (with_reducible refine Below.alloc ?_ ?_ _) | (with_reducible refine Below.setCell ?_ ?_ _) | go_size))⟩
  · clear h3
    go_enter Try.func33, Try.ntmps33
    go_wp2_with (first | (go_at_call 34; go_must (go_fit (ID.out _)); rintro e w1 ⟨rfl, rfl⟩))
    go_ret
    exact ⟨rfl, (by repeat' (first | (with_reducible exact Below.refl _ _) | (with_reducible assumption) | (with_reducible refine below_drewN ?_ _) | (with_reducible refine Below.drew ?_) | (with_reducible refine Below.alloc ?_ ?_ _) | (with_reducible refine Below.setCell ?_ ?_ _) | go_size))⟩

/-- where the loop of shaped stands -/
def ShpL (f : T → Bool) (w : World) (N : Array Value) (gk : List T) (i : Value) (wr : World) : Prop :=
  ∃ k : Nat, i = .int .i64 (k : Int) ∧ k ≤ gk.length ∧ (gk.take k).all f = true ∧ wr.heap[w.heap.size]? = some (.cells N 26 (0, 0)) ∧ Below w.heap.size w wr

set_option maxRecDepth 100000 in
set_option maxHeartbeats 4000000 in
theorem shaped_step (d : Nat) (f : T → Bool) (w : World) (P : Nat → Prop) (t : T) {A6 K6 : Option Addr} {c6 ck6 : Nat} {xs : List Value} (hcp : CellsP w P K6 xs) (hrow : RowR (NodeR d w P) t.kids xs)
    (hP : ∀ b, P b → b < w.heap.size) (hc : t.kids.length ≤ 1000000) (hok : nodeOk t = true)
    (ih : ∀ k, k ∈ t.kids → ∀ (X : World) (v : Value), NodeR d X P v k → w.heap.size ≤ X.heap.size → Calls Try.prog 33 #[v] X fun e w' => e = .returned (.bool (f k)) ∧ Below X.heap.size X w') :
    Calls Try.prog 33 #[nodeV t A6 c6 K6 ck6] w fun e w' => e = .returned (.bool (t.kids.all f)) ∧ Below w.heap.size w w' := by
  obtain ⟨o1, o2, o3⟩ := nodeOk_iff.1 hok
  clear hok
  obtain ⟨g1, g2, g3, gc, gk⟩ := t
  simp only [nodeV, T.cls, T.num, T.cons, T.con, T.kids] at *
  have HX := Lib.hid hcp
  have HY := Lib.hid hrow
  have IH := Lib.hid ih
  have ID := Lib.hid (fun w => refident_any g1 g2 g3 w)
  rw [o1] at ID
  have hb3 : (g3 = true ∧ gc = []) ∨ (g3 = false ∧ gk = []) := by
    cases g3
    · exact .inr ⟨rfl, o3 rfl⟩
    · exact .inl ⟨rfl, o2 rfl⟩
  generalize idByte g1 g3 g2 = ib at *
  clear ih hcp hrow o1 o2 o3
  obtain ⟨R, hR⟩ : ∃ R, gk.all f = R := ⟨_, rfl⟩
  have HR := Lib.hid hR
  rw [hR]
  clear hR
  obtain ⟨gcl, hgcl⟩ : ∃ m, gc.length = m := ⟨_, rfl⟩
  rw [hgcl]
  have h0 : (g3 = true ∧ gcl = 0) ∨ (g3 = false ∧ (gk.length : Int) = 0) := by
    rcases hb3 with ⟨h, h'⟩ | ⟨h, h'⟩
    · exact .inl ⟨h, by rw [← hgcl, h']; rfl⟩
    · exact .inr ⟨h, by rw [h']; rfl⟩
  clear hgcl hb3
  have START : Hid (∀ X : World, X.heap[w.heap.size]? = some (.cells #[.int .i64 g1, .int .i64 g2, .bool g3, .slice A6 gcl c6, .slice K6 gk.length ck6] 26 (0, 0)) → Below w.heap.size w X → ShpL f w #[.int .i64 g1, .int .i64 g2, .bool g3, .slice A6 gcl c6, .slice K6 gk.length ck6] gk (.int .i64 0) X) :=
    Lib.hid (fun X h1 h2 => ⟨0, rfl, Nat.zero_le _, by simp, h1, h2⟩)
  go_enter Try.func33, Try.ntmps33
  rcases h0 with ⟨rfl, rfl⟩ | ⟨rfl, h0⟩
  · go_wp2_with (first | (go_at_call 34; go_must (go_fit (ID.out _)); rintro e w1 ⟨rfl, rfl⟩))
    go_loopw [5] (fun i wr => ShpL f w _ gk i wr) (fun i _ => gk.length - (intOf i).toNat)
    case atStart => exact START.out _ (bk_new rfl) (by repeat' (first | (with_reducible exact Below.refl _ _) | (with_reducible assumption) | (with_reducible refine below_drewN ?_ _) | (with_reducible refine Below.drew ?_) | (with_reducible refine Below.alloc ?_ ?_ _) | (with_reducible refine Below.setCell ?_ ?_ _) | go_size))
    case round =>
      obtain ⟨k, rfl, hk, hal, h1, hb⟩ := hrel
      have T1 := Lib.hid h1
      have BE := Lib.hid hb
      have AL := Lib.hid hal
      obtain ⟨u0, u1, u2, u3, u4⟩ := cells5 h1
      clear h1 hal START
      by_cases hlt : k < gk.length
      · have hkz : (k : Int) < (gk.length : Int) := by omega
        have hit : gk[k]? = some gk[k] := List.getElem?_eq_getElem hlt
        have hmem : gk[k] ∈ gk := List.getElem_mem hlt
        have kp := Keeps.below hb hP
        obtain ⟨g, A1, c1, K2, ck, hK, hg, x0, x1, x2, x3, x4, hnk⟩ := kid_full (HX.out.keep kp) (HY.out.imp (fun _ _ h => h.keep kp)) hit
        subst hK
        have YES := Lib.hid (fun h => all_more hlt AL.out h)
        have NO := Lib.hid (fun h => (all_not (f := f) hlt h))
        have IK := Lib.hid (IH.out _ hmem wr _ hnk hb.size)
        generalize hq : f gk[k] = q at *
        generalize gk[k] = t at *
        obtain ⟨k1, k2, k3, kc, kk⟩ := t
        simp only [T.cls, T.num, T.cons, T.con, T.kids] at x0 x1 x2 x3 x4 hnk IK
        have hgw := hP g.block hg
        clear hit hmem kp hnk hb IH AL hq
        cases q with
        | true =>
          go_wp2_with fail
          go_must (go_fit IK.out)
          rintro e w2 ⟨rfl, hb2⟩
          have T2 := Lib.hid (stayK T1.out hb2)
          have BE2 := Lib.hid (two_belowK BE.out hb2 BE.out.size)
          clear hb2 IK T1 u0 u1 u2 u3 u4 x0 x1 x2 x3 x4
          have RL : Hid (ShpL f w _ gk (.int .i64 ((k : Int) + 1)) w2) := Lib.hid ⟨k + 1, by rw [Int.natCast_add]; rfl, by omega, YES.out (by simp), T2.out, BE2.out⟩
          go_wp2
          go_roundw
          case rel => exact RL.out
          case measure => simp [intOf]; omega
        | false =>
          have E : gk.all f = false := NO.out (by simp)
          have E2 : false = R := by rw [← E]; exact HR.out
          subst E2
          go_wp2_with fail
          go_must (go_fit IK.out)
          rintro e w2 ⟨rfl, hb2⟩
          have BE2 := Lib.hid (two_belowK BE.out hb2 BE.out.size)
          clear hb2 IK T1 u0 u1 u2 u3 u4 x0 x1 x2 x3 x4
          go_wp2
          go_ret
          exact ⟨rfl, BE2.out⟩
      · obtain rfl : k = gk.length := by omega
        have E := AL.out
        rw [List.take_length] at E
        have E2 : true = R := by rw [← E]; exact HR.out
        subst E2
        clear HX HY IH HR E
        go_wp2
        go_ret
        exact ⟨rfl, BE.out⟩
  · go_wp2_with (first | (go_at_call 34; go_must (go_fit (ID.out _)); rintro e w1 ⟨rfl, rfl⟩))
    go_loopw [5] (fun i wr => ShpL f w _ gk i wr) (fun i _ => gk.length - (intOf i).toNat)
    case atStart => exact START.out _ (bk_new rfl) (by repeat' (first | (with_reducible exact Below.refl _ _) | (with_reducible assumption) | (with_reducible refine below_drewN ?_ _) | (with_reducible refine Below.drew ?_) | (with_reducible refine Below.alloc ?_ ?_ _) | (with_reducible refine Below.setCell ?_ ?_ _) | go_size))
    case round =>
      obtain ⟨k, rfl, hk, hal, h1, hb⟩ := hrel
      have T1 := Lib.hid h1
      have BE := Lib.hid hb
      have AL := Lib.hid hal
      obtain ⟨u0, u1, u2, u3, u4⟩ := cells5 h1
      clear h1 hal START
      by_cases hlt : k < gk.length
      · exfalso; omega
      · obtain rfl : k = gk.length := by omega
        have E := AL.out
        rw [List.take_length] at E
        have E2 : true = R := by rw [← E]; exact HR.out
        subst E2
        clear HX HY IH HR E
        go_wp2
        go_ret
        exact ⟨rfl, BE.out⟩
/-- the reference's SHAPED, of any tree in memory -/
theorem shaped_any : ∀ (d : Nat) (w : World) (P : Nat → Prop) (v : Value) (t : T), NodeR d w P v t → (∀ b, P b → b < w.heap.size) → countT d t ≤ 1000000 →
    Calls Try.prog 33 #[v] w fun e w' => e = .returned (.bool (shapedT d t)) ∧ Below w.heap.size w w' := by
  intro d
  induction d with
  | zero =>
    intro w P v t hn hP hc
    obtain ⟨A, c, K, ck, xs, rfl, -, -, -, h5, h6⟩ := hn.open_
    have hk := hn.leaf_kids
    rw [shapedT_eq 0 t (fun _ => hk)]
    cases ho : nodeOk t with
    | false => simpa using shaped_bad w t ho
    | true =>
      rw [Bool.true_and]
      exact shaped_step (0 - 1) _ w P t h5 h6 hP (by rw [hk]; simp) ho (fun k hk' => by rw [hk] at hk'; simp at hk')
  | succ d ih =>
    intro w P v t hn hP hc
    obtain ⟨A, c, K, ck, xs, rfl, -, -, -, h5, h6⟩ := hn.open_
    rw [shapedT_eq (d + 1) t (fun h => by omega)]
    cases ho : nodeOk t with
    | false => simpa using shaped_bad w t ho
    | true =>
      rw [Bool.true_and]
      exact shaped_step d _ w P t h5 h6 hP (by have := count_kids (d := d) (t := t); omega) ho
        (fun k hk' X v hv hX => ih X P v k hv (fun b h => Nat.lt_of_lt_of_le (hP b h) hX) (by have := count_kid (d := d) hk'; omega))
end Go.Proofs.Ytoomdaljdbennaa.Tree
