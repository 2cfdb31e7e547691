/- Walks: the element at the beginning, read by tlv. -/
import Derived.Test.YtjdnjmggpomhcaaTlvH
import Derived.Test.YtjdnjmggpomhcaaClone
set_option linter.unusedSimpArgs false
set_option linter.unusedVariables false
namespace Go.Proofs.Ytjdnjmggpomhcaa.Tlv
open Go.RowKit Kit

/-- what Next returns: its slices lie in blocks of their own, the contents' below the rest's -/
def NxO (w : World) (l : List UInt8) (e : Ending) (w' : World) : Prop :=
  ∃ A1 c1 A2 c2 b, e = .returned (.tuple #[hdV (nx l).hd, .slice A1 (nx l).con.length c1, .slice A2 (nx l).rest.length c2, err (nx l).code (nx l).off]) ∧
    Own w' w.heap.size A1 (nx l).con.length c1 (nx l).con ∧ Own w' b A2 (nx l).rest.length c2 (nx l).rest ∧ w.heap.size ≤ b ∧ (∀ k, (Value.slice A1 (nx l).con.length c1).ownBlock = some k → k < b) ∧ Below w.heap.size w w'

set_option maxRecDepth 100000 in
set_option maxHeartbeats 4000000 in
theorem next_any {A : Option Addr} {n c B : Nat} {l : List UInt8} (w : World) (hr : Rd w B A n l) (hB : B ≤ w.heap.size) (hc : n ≤ c) (hm : c ≤ maxLen) (hn : n ≤ 140737488355328) :
    Calls Try.prog 48 #[.slice A n c] w (NxO w l) := by
  have hl := hr.len
  obtain ⟨d1, d2, d3, d4, d5, d6, d7, d8⟩ := rh_bd l (by omega)
  have RH := Lib.hid (fun (w' : World) (h : Rd w' B A n l) (hB : B ≤ w'.heap.size) => readhead_any (c := c) w' h hB hc hm hn)
  have hm' := hm
  unfold maxLen at hm'
  have HR := Lib.hid hr
  have N1 := Lib.hid (fun (h : (rh l).2.1 ≠ 0) => show nx l = ⟨Hd.zero, [], [], (rh l).2.1, (rh l).2.2⟩ from by unfold nx; rw [if_pos h])
  have N2 := Lib.hid (fun (h : ¬ (rh l).2.1 ≠ 0) (h2 : (l.length : Int) - (rh l).1.size < (rh l).1.len) => show nx l = ⟨Hd.zero, [], [], 1, l.length⟩ from by unfold nx; rw [if_neg h, if_pos h2])
  have N3 := Lib.hid (fun (h : ¬ (rh l).2.1 ≠ 0) (h2 : ¬ (l.length : Int) - (rh l).1.size < (rh l).1.len) => show nx l = ⟨(rh l).1, (l.drop (rh l).1.size.toNat).take (rh l).1.len.toNat, l.drop ((rh l).1.size.toNat + (rh l).1.len.toNat), 0, 0⟩ from by unfold nx; rw [if_neg h, if_neg h2])
  generalize rh l = r at *
  obtain ⟨⟨k1, k2, k3, k4, k5⟩, r1, r2⟩ := r
  simp only [rhV, hdV] at RH N1 N2 N3 d1 d2 d3 d4 d5 d6 d7 d8
  clear hr
  go_enter Try.func48, Try.ntmps48
  go_upto_region 2 with (first | (go_at_call 44; refine (RH.out _ ((HR.out.alloc hB _).alloc (by simp; omega) _) (by simp; omega)).mono ?_; rintro e w1 ⟨rfl, hb⟩))
  obtain ⟨t2, t5, bel⟩ := box2 hb
  have hs := hb.size
  simp only [World.size_alloc] at hs
  replace t2 := bk_old (o' := .cells #[.int .i64 r1, .int .i64 r2] 49) (bk_old (o' := .cells #[.int .i64 k1, .int .i64 k2, .bool k3, .int .i64 k4, .int .i64 k5] 54) t2)
  replace t5 := bk_old (o' := .cells #[.int .i64 r1, .int .i64 r2] 49) (bk_old (o' := .cells #[.int .i64 k1, .int .i64 k2, .bool k3, .int .i64 k4, .int .i64 k5] 54) t5)
  have t6 : ((w1.alloc (.cells #[.int .i64 k1, .int .i64 k2, .bool k3, .int .i64 k4, .int .i64 k5] 54)).alloc (.cells #[.int .i64 r1, .int .i64 r2] 49)).heap[w1.heap.size]? = _ := bk_old (bk_new rfl)
  have t7 : ((w1.alloc (.cells #[.int .i64 k1, .int .i64 k2, .bool k3, .int .i64 k4, .int .i64 k5] 54)).alloc (.cells #[.int .i64 r1, .int .i64 r2] 49)).heap[w1.heap.size + 1]? = _ := bk_new (by simp)
  replace bel := (bel.alloc bel.size (.cells #[.int .i64 k1, .int .i64 k2, .bool k3, .int .i64 k4, .int .i64 k5] 54)).alloc (by simp; have := bel.size; omega) (.cells #[.int .i64 r1, .int .i64 r2] 49)
  have n1 : ¬ w1.heap.size = w.heap.size := by omega
  have n2 : ¬ w1.heap.size = w.heap.size + 1 := by omega
  have n3 : ¬ w.heap.size = w1.heap.size := by omega
  have n4 : ¬ w.heap.size + 1 = w1.heap.size := by omega
  have m1 : ¬ w1.heap.size + 1 = w.heap.size := by omega
  have m2 : ¬ w1.heap.size + 1 = w.heap.size + 1 := by omega
  have m3 : ¬ w.heap.size = w1.heap.size + 1 := by omega
  have m4 : ¬ w.heap.size + 1 = w1.heap.size + 1 := by omega
  clear hb hs RH
  generalize hg7 : w1.heap.size + 1 = b7 at *
  generalize hg6 : w1.heap.size = b6 at *
  clear hg6 hg7
  generalize (w1.alloc (.cells #[.int .i64 k1, .int .i64 k2, .bool k3, .int .i64 k4, .int .i64 k5] 54)).alloc (.cells #[.int .i64 r1, .int .i64 r2] 49) = w2 at *
  clear w1
  have RW := Lib.hid ((HR.out.more hB).below bel)
  have T2 := Lib.hid t2
  have T5 := Lib.hid t5
  obtain ⟨q0, q1, q2, q3, q4⟩ := cells5 t2
  obtain ⟨f0, f1, f2, f3, f4⟩ := free5 t2
  obtain ⟨s0, s1⟩ := cells2 t5
  obtain ⟨g0, g1, _, _, _⟩ := free5 t5
  obtain ⟨u0, u1, u2, u3, u4⟩ := cells5 t6
  obtain ⟨v0, v1⟩ := cells2 t7
  have L6 := Blk_lt t6
  clear t2 t5 t6 t7
  by_cases hz : r1 = 0
  · subst hz
    obtain ⟨sz, rfl⟩ := Int.eq_ofNat_of_zero_le d3
    obtain ⟨m, rfl⟩ := Int.eq_ofNat_of_zero_le d1
    by_cases hcut : (n : Int) - (sz : Int) < (m : Int)
    · have E := Lib.hid (N2.out (by decide) (by rw [hl]; exact hcut))
      clear N1 N2 N3 HR RW
      go_wp2
      clear q0 q1 q2 q3 q4 f0 f1 f2 f3 f4 s0 s1 g0 g1 u0 u1 u2 u3 u4 v0 v1
      have tc := cells5 (far2 (c := w.heap.size + 1) (set5 (.int .i64 0) (.int .i64 0) (.bool false) (.int .i64 0) (.int .i64 0) T2.out) (by omega) (.int .i64 1) (.int .i64 (n : Int)))
      have td := cells2 (set2 (.int .i64 1) (.int .i64 (n : Int)) (far5 (c := w.heap.size) T5.out (by omega) (.int .i64 0) (.int .i64 0) (.bool false) (.int .i64 0) (.int .i64 0)))
      refine bodyPost_ret (v := .tuple #[.agg #[.int .i64 0, .int .i64 0, .bool false, .int .i64 0, .int .i64 0], .slice none 0 0, .slice none 0 0, err 1 (n : Int)]) (by simp [results, Try.results48, go_sem, *]) rfl ?_
      unfold NxO
      rw [E.out, hl]
      exact ⟨none, 0, none, 0, _, rfl, Own.none_ _ _, Own.none_ _ _, Nat.le_refl _, (fun k hk => by cases hk), (by repeat' (first | (with_reducible exact Below.refl _ _) | (with_reducible assumption) | (with_reducible refine below_drewN ?_ _) | (with_reducible refine Below.drew ?_) | (with_reducible refine Below.alloc ?_ ?_ _) | (with_reducible refine Below.setCell ?_ ?_ _) | go_size))⟩
    · have E := Lib.hid (N3.out (by decide) (by rw [hl]; omega))
      simp only [Int.toNat_natCast] at E
      clear N1 N2 N3 HR
      have x1 : (sz : Int) ≤ (sz : Int) + (m : Int) := by omega
      have x2 : (sz : Int) + (m : Int) ≤ (n : Int) := by omega
      have x3 : (sz : Int) + (m : Int) ≤ (c : Int) := by omega
      obtain ⟨en, hen⟩ : ∃ en : Nat, sz + m = en := ⟨_, rfl⟩
      have hen' : (sz : Int) + (m : Int) = (en : Int) := by omega
      have L2 := Blk_lt T2.out
      have L5 := Blk_lt T5.out
      have R1 := RW.out.cut (k := sz) (m := en) (cap := c) (by omega) (by omega) (by omega)
      have R2 := RW.out.cut (k := en) (m := n) (cap := c) (by omega) (Nat.le_refl _) hc
      simp only [Nat.mul_one] at R1 R2
      rw [List.take_of_length_le (by rw [List.length_drop, hl]; exact Nat.le_refl _)] at R2
      rw [hen] at E
      have e1 : m = en - sz := by omega
      rw [← e1] at R1
      obtain ⟨l1, hl1⟩ : ∃ l1, (l.drop sz).take m = l1 := ⟨_, rfl⟩
      rw [hl1] at R1 E
      rw [e1] at R1
      clear e1 hl1
      have CL1 := Lib.hid (fun (X : World) (h : Rd X w.heap.size (if c = sz then A else Option.map (fun x => x.add sz) A) (en - sz) l1) (hB : w.heap.size ≤ X.heap.size) => Cur.clone_any _ (en - sz) (c - sz) _ X h (by omega) hB)
      have CL2 := Lib.hid (fun (X : World) (h : Rd X w.heap.size (if c = en then A else Option.map (fun x => x.add en) A) (n - en) (l.drop en)) (hB : w.heap.size ≤ X.heap.size) => Cur.clone_any _ (n - en) (c - en) _ X h (by omega) hB)
      have K1 := Lib.hid R1
      have K2 := Lib.hid R2
      clear R1 R2
      go_upto_region 7 with fail
      clear hen'
      have x4 : (sz : Int) ≤ (en : Int) := by omega
      have x5 : (en : Int) ≤ (n : Int) := by omega
      have x6 : (en : Int) ≤ (c : Int) := by omega
      go_region_held3 (fun w' => w'.cell? ⟨b6, 0, none⟩ = some (.int .i64 k1) ∧ w'.cell? ⟨b6, 1, none⟩ = some (.int .i64 k2) ∧ w'.cell? ⟨b6, 2, none⟩ = some (.bool k3) ∧ w'.cell? ⟨b6, 3, none⟩ = some (.int .i64 (m : Int)) ∧ w'.cell? ⟨b6, 4, none⟩ = some (.int .i64 (sz : Int))) (go_keep) (first
        | (go_at_call 58; (with_reducible refine Calls.mono (CL1.out _ ?_ ?_) ?_); (focus repeat' (first | (with_reducible exact K1.out) | (with_reducible refine Rd.drew ?_) | (with_reducible refine Rd.setCell ?_ ?_ _) | (with_reducible exact Nat.le_refl _)  | (simp; omega))); (focus first | omega | (simp; omega)); rintro e w3 ⟨A1, c1, rfl, ho1, hb1⟩; obtain ⟨hc1, hf1⟩ := bcell hb1; have z1 := hb1.size; (try simp only [World.size_setCell, World.size_drew] at hc1 hf1 z1); have L63 : b6 < w3.heap.size := (by omega); have L23 : w.heap.size < w3.heap.size := (by omega); have L53 : w.heap.size + 1 < w3.heap.size := (by omega); dsimp only)
        | (go_at_call 58; (with_reducible refine Calls.mono (CL2.out _ ?_ ?_) ?_); (focus repeat' (first | (with_reducible exact K2.out) | (with_reducible refine Rd.drew ?_) | (with_reducible refine Rd.setCell ?_ ?_ _) | (with_reducible exact Nat.le_refl _) | (with_reducible refine Rd.below ?_ (hb1.mono ?_)) | (simp; omega))); (focus first | omega | (simp; omega)); rintro e w4 ⟨A2, c2, rfl, ho2, hb2⟩; obtain ⟨hc2, hf2⟩ := bcell hb2; have z2 := hb2.size; (try simp only [World.size_setCell, World.size_drew] at hc2 hf2 z2); dsimp only))
      rename_i hheld
      have T24 := Lib.hid ((hb2.block _ L23).trans ((hb1.block _ L2).trans T2.out))
      have T54 := Lib.hid ((hb2.block _ L53).trans ((hb1.block _ L5).trans T5.out))
      have bel4 := (bel.drew.trans (hb1.mono (by simp; omega))).trans (hb2.mono (by omega))
      have O1 := Lib.hid (ho1.below hb2)
      have O2 := Lib.hid ho2
      have N1 := Lib.hid ho1.len
      have N2 := Lib.hid ho2.len
      have B1 := Lib.hid (fun k (hk : (Value.slice A1 (en - sz) c1).ownBlock = some k) => (ho1.blk hk).2)
      have f0' := (hf2 _ 0 L23).trans ((hf1 _ 0 L2).trans f0)
      have f1' := (hf2 _ 1 L23).trans ((hf1 _ 1 L2).trans f1)
      have f2' := (hf2 _ 2 L23).trans ((hf1 _ 2 L2).trans f2)
      have f3' := (hf2 _ 3 L23).trans ((hf1 _ 3 L2).trans f3)
      have f4' := (hf2 _ 4 L23).trans ((hf1 _ 4 L2).trans f4)
      have g0' := (hf2 _ 0 L53).trans ((hf1 _ 0 L5).trans g0)
      have g1' := (hf2 _ 1 L53).trans ((hf1 _ 1 L5).trans g1)
      clear hheld hc1 hf1 hc2 hf2 q0 q1 q2 q3 q4 f0 f1 f2 f3 f4 s0 s1 g0 g1 u0 u1 u2 u3 u4 v0 v1 CL1 CL2 K1 K2 ho1 ho2 hb1 hb2
      generalize (if c = sz then A else Option.map (fun x => x.add sz) A) = Aa at *
      generalize (if c = en then A else Option.map (fun x => x.add en) A) = Ab at *
      go_wp2
      have tc := cells5 (far2 (c := w.heap.size + 1) (set5 (.int .i64 k1) (.int .i64 k2) (.bool k3) (.int .i64 (m : Int)) (.int .i64 (sz : Int)) T24.out) (by omega) (.int .i64 0) (.int .i64 0))
      have td := cells2 (set2 (.int .i64 0) (.int .i64 0) (far5 (c := w.heap.size) T54.out (by omega) (.int .i64 k1) (.int .i64 k2) (.bool k3) (.int .i64 (m : Int)) (.int .i64 (sz : Int))))
      refine bodyPost_ret (v := .tuple #[.agg #[.int .i64 k1, .int .i64 k2, .bool k3, .int .i64 (m : Int), .int .i64 (sz : Int)], .slice A1 (en - sz) c1, .slice A2 (n - en) c2, err 0 0]) (by simp [results, Try.results48, go_sem, *]) rfl ?_
      unfold NxO
      rw [E.out]
      refine ⟨A1, c1, A2, c2, w3.heap.size, ?_, ?_, ?_, by omega, ?_, (by repeat' (first | (with_reducible exact Below.refl _ _) | (with_reducible assumption) | (with_reducible refine below_drewN ?_ _) | (with_reducible refine Below.drew ?_) | (with_reducible refine Below.alloc ?_ ?_ _) | (with_reducible refine Below.setCell ?_ ?_ _) | go_size))⟩
      · simp only [N1.out, N2.out]
      · simp only [N1.out]
        exact ((((((((O1.out).setOld (by simp; omega) _).setOld (by simp; omega) _).setOld (by simp; omega) _).setOld (by simp; omega) _).setOld (by simp; omega) _).setOld (by simp; omega) _).setOld (by simp; omega) _).mono (by simp; omega)
      · simp only [N2.out]
        exact (((((((O2.out).setOld (by simp; omega) _).setOld (by simp; omega) _).setOld (by simp; omega) _).setOld (by simp; omega) _).setOld (by simp; omega) _).setOld (by simp; omega) _).setOld (by simp; omega) _
      · simp only [N1.out]
        exact B1.out
  · have E := Lib.hid (N1.out hz)
    clear N1 N2 N3 HR RW
    go_upto_region 3 with fail
    go_region
    all_goals
      go_wp2
      clear q0 q1 q2 q3 q4 f0 f1 f2 f3 f4 s0 s1 g0 g1 u0 u1 u2 u3 u4 v0 v1
      have tc := cells5 (far2 (c := w.heap.size + 1) (set5 (.int .i64 0) (.int .i64 0) (.bool false) (.int .i64 0) (.int .i64 0) T2.out) (by omega) (.int .i64 r1) (.int .i64 r2))
      have td := cells2 (set2 (.int .i64 r1) (.int .i64 r2) (far5 (c := w.heap.size) T5.out (by omega) (.int .i64 0) (.int .i64 0) (.bool false) (.int .i64 0) (.int .i64 0)))
      refine bodyPost_ret (v := .tuple #[.agg #[.int .i64 0, .int .i64 0, .bool false, .int .i64 0, .int .i64 0], .slice none 0 0, .slice none 0 0, err r1 r2]) (by simp [results, Try.results48, go_sem, *]) rfl ?_
      unfold NxO
      rw [E.out]
      exact ⟨none, 0, none, 0, _, rfl, Own.none_ _ _, Own.none_ _ _, Nat.le_refl _, (fun k hk => by cases hk), (by repeat' (first | (with_reducible exact Below.refl _ _) | (with_reducible assumption) | (with_reducible refine below_drewN ?_ _) | (with_reducible refine Below.drew ?_) | (with_reducible refine Below.alloc ?_ ?_ _) | (with_reducible refine Below.setCell ?_ ?_ _) | go_size))⟩
end Go.Proofs.Ytjdnjmggpomhcaa.Tlv
