/- The walk of the law CursorCopies. -/
import Derived.Test.YtkkgcfllfhkoaaaCurM
import Derived.Test.YtkkgcfllfhkoaaaErr
set_option linter.unusedSimpArgs false
set_option linter.unusedVariables false
namespace Go.Proofs.Ytkkgcfllfhkoaaa
open Go.RowKit Kit Cur

set_option maxRecDepth 100000 in
set_option maxHeartbeats 4000000 in
theorem CursorCopies.walk (a0 : Option Addr) (len0 cap0 : Nat) (l0 : List UInt8) (n : Int) (w : World)
    (rd0 : Rd w w.heap.size a0 len0 l0) (hc0 : len0 ≤ cap0) (hm0 : cap0 ≤ maxLen) (bd : 0 ≤ n ∧ n ≤ 255) :
    Calls Try.prog 10 #[.slice a0 len0 cap0, .int .u8 n] w fun e w' => e = .returned (.bool true) ∧ Below w.heap.size w w' := by
  clear hc0 hm0
  by_cases hbig : 2000 < len0
  · go_enter Try.func10, Try.ntmps10
    go_wp2_with fail
    refine (awake_any _).mono ?_
    rintro e w1 ⟨rfl, hb1⟩
    go_wp2_with fail
    refine (awake_any _).mono ?_
    rintro e w2 ⟨rfl, hb2⟩
    go_wp2_with fail
    go_ret
    exact ⟨rfl, hb1.trans (hb2.mono hb1.size)⟩
  · have L0 := Lib.hid rd0.len
    obtain ⟨bd0, bd1⟩ := bd
    go_enter Try.func10, Try.ntmps10
    go_wp2_with fail
    refine (awake_any _).mono ?_
    rintro e w1 ⟨rfl, hb1⟩
    have q0 := rd0.past hb1
    clear rd0
    have hoe := Own.lit (base := w1.heap.size) w1 [] (Nat.le_refl _) (Nat.zero_le _)
    go_wp2_with (first | (at_builtin; refine app rfl (.tmp 27) (.tmp 28) rfl rfl hoe rfl (q0.alloc (Nat.le_refl _) _) (by omega) (by simp) ?_; intro A2 c2 w2 ho2 hg2 hb2 hs2))
    simp only [List.length_nil, Nat.zero_add, List.nil_append] at ho2
    have z2 : w1.heap.size ≤ w2.heap.size := by have := hb2.size; simp at this; omega
    have bel2 : Below w1.heap.size w1 w2 := ((Below.refl _ _).alloc (Nat.le_refl _) _).trans hb2
    clear hoe hg2 hb2 hs2
    refine (newL _ ho2.rd (by omega) (Nat.le_refl _)).mono ?_
    rintro e w3 ⟨g, rfl, cu3, hb3⟩
    have z3 := hb3.size
    have ho3 := ho2.below hb3
    have bk3 := fun k hk => (ho2.blk (k := k) hk)
    have bel3 := bel2.trans (hb3.mono z2)
    clear ho2 hb3 bel2
    go_wp2_with fail
    go_loopw [7] (fun i wr => ∃ (k : Nat) (m : List UInt8), i = .int .i64 (k : Int) ∧ k ≤ len0 ∧ Own wr w1.heap.size A2 len0 c2 m ∧ w3.grownBy wr (Value.slice A2 len0 c2).ownBlock) (fun i _ => len0 - (intOf i).toNat)
    case atStart => exact ⟨0, _, rfl, Nat.zero_le _, by simpa using ho3, World.grownBy.refl _ _⟩
    case round =>
      obtain ⟨k, m, rfl, hk, ho, hg⟩ := hrel
      by_cases hlt : k < len0
      · obtain ⟨go, rfl⟩ := ho.shape (by omega)
        have cc := ho.cellAt hlt
        have ff := ho.frozenAt k
        have b1 := bt_lo m k
        have b2 := bt_hi m k
        go_wp2
        go_roundw
        case rel => exact ⟨k + 1, _, by go_num, by omega, ho.stored k (by omega) (by omega), grown_set hg _ _⟩
        case measure => simp [intOf]; omega
      · obtain ⟨w4, rfl⟩ : ∃ w4 : World, w4 = wr := ⟨_, rfl⟩
        have cu4 := cu3.other hg (fun j e => .inl (bk3 j e).2)
        have bel4 := bel3.grown hg (by omega) (fun j e => (bk3 j e).1)
        have z4 := hg.size
        clear ho hg bel3 cu3 ho3 bk3
        go_wp2_with fail
        refine (restE (k := len0) (r := l0) _ cu4 (by rw [L0.out]; rfl) rfl).mono ?_
        rintro e w5 ⟨A5, c5, rfl, ho5, hb5⟩
        have cu5 := cu4.keep hb5
        have z5 := hb5.size
        have bel5 := bel4.trans (hb5.mono (by omega))
        have bk5 := fun k hk => (ho5.blk (k := k) hk)
        clear cu4 bel4 hb5
        go_wp2_with fail
        go_loopw [9] (fun i wr => ∃ (k : Nat) (m : List UInt8), i = .int .i64 (k : Int) ∧ k ≤ len0 ∧ Own wr w4.heap.size A5 len0 c5 m ∧ w5.grownBy wr (Value.slice A5 len0 c5).ownBlock) (fun i _ => len0 - (intOf i).toNat)
        case atStart => exact ⟨0, _, rfl, Nat.zero_le _, ho5, World.grownBy.refl _ _⟩
        case round =>
          obtain ⟨k2, m, rfl, hk2, ho, hg⟩ := hrel
          by_cases hlt2 : k2 < len0
          · obtain ⟨go, rfl⟩ := ho.shape (by omega)
            have cc := ho.cellAt hlt2
            have ff := ho.frozenAt k2
            go_wp2
            go_roundw
            case rel => exact ⟨k2 + 1, _, by go_num, by omega, ho.stored k2 (by omega) (by omega), grown_set hg _ _⟩
            case measure => simp [intOf]; omega
          · obtain ⟨w6, rfl⟩ : ∃ w6 : World, w6 = wr := ⟨_, rfl⟩
            have cu6 := cu5.other hg (fun j e => .inr (by have := (bk5 j e).1; omega))
            have bel6 := bel5.grown hg (by omega) (fun j e => by have := (bk5 j e).1; omega)
            have z6 := hg.size
            clear ho hg bel5 cu5 ho5 bk5
            obtain ⟨cd, hcd⟩ : ∃ cd, tkCode l0.length 0 n = cd := ⟨_, rfl⟩
            obtain ⟨od, hod⟩ : ∃ od, tkOff l0.length 0 n = od := ⟨_, rfl⟩
            obtain ⟨k7, hk7⟩ : ∃ k7, tkN l0.length 0 n = k7 := ⟨_, rfl⟩
            have EC := Lib.hid (show (cd == 0) = decide (n ≤ (len0 : Int)) from by
              rw [← hcd, L0.out]; unfold tkCode; rw [if_neg (by omega)]
              by_cases h : n ≤ (len0 : Int)
              · rw [if_neg (by omega)]; simp [h]
              · rw [if_pos (by omega)]; simp; omega)
            have EK : k7 ≤ 255 := by rw [← hk7]; unfold tkN; split <;> omega
            have TE := Lib.hid (fun w => takeE (q := 0 + k7) (k := k7) (r := (l0.drop 0).take k7) (w := w) (lo := w2.heap.size) (hi := w3.heap.size) (g := g) cd od n (hk := hk7) (hc := hcd) (ho := hod) (hq := rfl) (hr := rfl))
            clear hcd hod hk7
            go_wp2_with fail
            refine (TE.out _ cu6).mono ?_
            rintro e w7 ⟨A7, c7, rfl, ho7, hg7, cu7⟩
            have z7 := hg7.size
            have gl := cu7.hi_
            have bel7 := bel6.grown hg7 (by omega) (fun j e => by injection e with e; omega)
            have bk7 := fun k hk => (ho7.blk (k := k) hk)
            have eb := ErrB.new w7 cd od
            have ho7' := ho7.alloc (Obj.cells #[Value.int IntKind.i64 cd, Value.int IntKind.i64 od] 46)
            have cu7' := cu7.allocd (Obj.cells #[Value.int IntKind.i64 cd, Value.int IntKind.i64 od] 46)
            have bel7' := bel7.alloc (by omega) (Obj.cells #[Value.int IntKind.i64 cd, Value.int IntKind.i64 od] 46)
            clear TE cu6 bel6 hg7 cu7 bel7 ho7
            go_wp2_with fail
            go_loopw [12] (fun i wr => ∃ (k : Nat) (m : List UInt8), i = .int .i64 (k : Int) ∧ k ≤ k7 ∧ Own wr w6.heap.size A7 k7 c7 m ∧ (w7.alloc (Obj.cells #[Value.int IntKind.i64 cd, Value.int IntKind.i64 od] 46)).grownBy wr (Value.slice A7 k7 c7).ownBlock) (fun i _ => k7 - (intOf i).toNat)
            case atStart => exact ⟨0, _, rfl, Nat.zero_le _, ho7', World.grownBy.refl _ _⟩
            case round =>
              obtain ⟨k3, m, rfl, hk3, ho, hg⟩ := hrel
              by_cases hlt3 : k3 < k7
              · obtain ⟨go, rfl⟩ := ho.shape (by omega)
                have cc := ho.cellAt hlt3
                have ff := ho.frozenAt k3
                have b1 := bt_lo m k3
                have b2 := bt_hi m k3
                go_wp2
                go_roundw
                case rel => exact ⟨k3 + 1, _, by go_num, by omega, ho.stored k3 (by omega) (by omega), grown_set hg _ _⟩
                case measure => simp [intOf]; omega
              · obtain ⟨w8, rfl⟩ : ∃ w8 : World, w8 = wr := ⟨_, rfl⟩
                have z8 := hg.size
                simp only [World.size_alloc] at z8
                have cu8 := cu7'.other hg (fun j e => .inr (by have := (bk7 j e).1; omega))
                have bel8 := bel7'.grown hg (by simp; omega) (fun j e => by have := (bk7 j e).1; omega)
                have eb8 := eb.grown hg (fun e => by have := (bk7 _ e.symm).2; omega)
                clear ho hg cu7' bel7' eb ho7' bk7
                go_wp2_with fail
                refine (seekE (q := 0) 0 0 0 _ cu8 (by unfold skCode; rw [if_pos (by omega)]) (by unfold skOff; rw [if_pos (by omega)]) (by unfold skPos; rw [if_pos (by omega)]; rfl)).mono ?_
                rintro e w9 ⟨rfl, hg9, cu9⟩
                have z9 := hg9.size
                have bel9 := bel8.grown hg9 (by omega) (fun j e => by injection e with e; omega)
                have eb9 := eb8.grown hg9 (fun e => by injection e with e; omega)
                have fb := ErrB.new w9 0 0
                have cu9' := cu9.allocd (Obj.cells #[Value.int IntKind.i64 0, Value.int IntKind.i64 0] 46)
                have bel9' := bel9.alloc (by omega) (Obj.cells #[Value.int IntKind.i64 0, Value.int IntKind.i64 0] 46)
                have eb9' := eb9.alloc (Obj.cells #[Value.int IntKind.i64 0, Value.int IntKind.i64 0] 46)
                clear cu8 bel8 eb8 hg9 cu9 bel9 eb9
                go_wp2_with fail
                refine (byte_nil _).mono ?_
                rintro e w10 ⟨rfl, hb10⟩
                have z10 := hb10.size
                simp only [World.size_alloc] at z10
                have cu10 := cu9'.keep hb10
                have bel10 := bel9'.trans (hb10.mono (by simp; omega))
                have eb10 := eb9'.past hb10
                have fb10 := fb.past hb10
                have gb := ErrB.new w10 1 0
                have gb' : ErrB (w10.alloc (Obj.cells #[Value.int IntKind.i64 1, Value.int IntKind.i64 0] 46)) w10.heap.size 1 0 := gb
                have cu10' := cu10.allocd (Obj.cells #[Value.int IntKind.i64 1, Value.int IntKind.i64 0] 46)
                have bel10' := bel10.alloc (by omega) (Obj.cells #[Value.int IntKind.i64 1, Value.int IntKind.i64 0] 46)
                have eb10' := eb10.alloc (Obj.cells #[Value.int IntKind.i64 1, Value.int IntKind.i64 0] 46)
                have fb10' := fb10.alloc (Obj.cells #[Value.int IntKind.i64 1, Value.int IntKind.i64 0] 46)
                clear hb10 cu9' bel9' eb9' fb cu10 bel10 eb10 fb10 gb
                go_wp2_with fail
                refine (take_nil (-1) _ (by omega)).mono ?_
                rw [if_pos (by omega)]
                rintro e w11 ⟨rfl, hb11⟩
                have z11 := hb11.size
                simp only [World.size_alloc] at z11
                have cu11 := cu10'.keep hb11
                have bel11 := bel10'.trans (hb11.mono (by simp; omega))
                have eb11 := eb10'.past hb11
                have fb11 := fb10'.past hb11
                have gb11 := gb'.past hb11
                clear hb11 cu10' bel10' eb10' fb10' gb'
                have g0 := gb11.cell0
                have g1 := gb11.cell1
                have gz := gb11.lt
                go_wp2_with fail
                refine (seek_nil 0 _).mono ?_
                rw [if_pos rfl]
                rintro e w12 ⟨rfl, hb12⟩
                have z12 := hb12.size
                simp only [World.size_alloc] at z12
                have cu12 := (cu11.allocd _).keep hb12
                have bel12 := (bel11.alloc (by omega) _).trans (hb12.mono (by simp; omega))
                have eb12 := (eb11.alloc _).past hb12
                have fb12 := (fb11.alloc _).past hb12
                clear hb12 cu11 bel11 eb11 fb11 gb11 g0 g1
                go_wp2_with fail
                refine (seek_nil 1 _).mono ?_
                rw [if_neg (by omega)]
                rintro e w13 ⟨rfl, hb13⟩
                have z13 := hb13.size
                have cu13 := cu12.keep hb13
                have bel13 := bel12.trans (hb13.mono (by omega))
                have eb13 := eb12.past hb13
                have fb13 := fb12.past hb13
                clear hb13 cu12 bel12 eb12 fb12
                go_wp2_with fail
                refine (pos_nil _).mono ?_
                rintro e w14 ⟨rfl, rfl⟩
                go_wp2_with fail
                refine (left_nil _).mono ?_
                rintro e w14 ⟨rfl, m14, rfl⟩
                go_wp2_with fail
                refine (rest_nil _).mono ?_
                rintro e w14 ⟨rfl, rfl⟩
                have e0 := eb13.cell0
                have f0 := fb13.cell0
                have f1 := fb13.cell1
                have EC' : (cd == 0) = decide (n ≤ (len0 : Int)) := EC.out
                have cu14 : CuL (w13.drewN m14) w2.heap.size w3.heap.size g l0 0 := cu13
                by_cases hn : n ≤ (len0 : Int)
                · rw [decide_eq_true hn] at EC'
                  go_wp2_with fail
                  refine (restE (k := len0) (r := l0) _ cu14 (by rw [L0.out]; rfl) rfl).mono ?_
                  rintro e w15 ⟨A15, c15, rfl, ho15, hb15⟩
                  have bel15 := (below_drewN bel13 m14).trans (hb15.mono (by simp; omega))
                  go_wp2_with fail
                  refine (bytes_any _ _ _ _ _ _ _ _ _ ho15.rd (q0.below bel15)).mono ?_
                  rw [eqB_self]
                  rintro e w16 ⟨rfl, rfl⟩
                  go_wp2_with fail
                  go_ret
                  exact ⟨ret_bool (by first | rfl | (simp; omega)), hb1.trans (bel15.mono hb1.size)⟩
                · rw [decide_eq_false hn] at EC'
                  go_wp2_with fail
                  refine (restE (k := len0) (r := l0) _ cu14 (by rw [L0.out]; rfl) rfl).mono ?_
                  rintro e w15 ⟨A15, c15, rfl, ho15, hb15⟩
                  have bel15 := (below_drewN bel13 m14).trans (hb15.mono (by simp; omega))
                  go_wp2_with fail
                  refine (bytes_any _ _ _ _ _ _ _ _ _ ho15.rd (q0.below bel15)).mono ?_
                  rw [eqB_self]
                  rintro e w16 ⟨rfl, rfl⟩
                  go_wp2_with fail
                  go_ret
                  exact ⟨ret_bool (by first | rfl | (simp; omega)), hb1.trans (bel15.mono hb1.size)⟩
end Go.Proofs.Ytkkgcfllfhkoaaa
