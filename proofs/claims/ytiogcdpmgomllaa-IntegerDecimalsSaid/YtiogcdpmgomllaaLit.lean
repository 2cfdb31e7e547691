/- Slice literals of bytes, just made; Bytes of two slices of the world at hand; what stands behind a call. -/
import Derived.Test.YtiogcdpmgomllaaCurA
set_option linter.unusedSimpArgs false
set_option linter.unusedVariables false
namespace Go.Proofs.Ytiogcdpmgomllaa.Kit
open Go.RowKit
theorem bytesK (A1 A2 : Option Addr) (n1 c1 n2 c2 : Nat) (l1 l2 : List UInt8) (w : World) (h1 : Rd w w.heap.size A1 n1 l1) (h2 : Rd w w.heap.size A2 n2 l2) :
    Calls Try.prog 9 #[.slice A1 n1 c1, .slice A2 n2 c2] w fun e w' => e = .returned (.bool (Cur.eqB l1 l2)) ∧ w = w' := Cur.bytes_any A1 A2 n1 c1 n2 c2 l1 l2 w h1 h2
theorem litK (X : World) (xs : List Int) (l : List UInt8) (S n : Nat) (hS : X.heap.size = S) (hxs : ∀ x ∈ xs, 0 ≤ x ∧ x ≤ 255) (hl : xs.map ofI = l) (hn : xs.length = n) :
    Rd (X.alloc (.cells (xs.map (Value.int .u8)).toArray 5)) (X.alloc (.cells (xs.map (Value.int .u8)).toArray 5)).heap.size (some ⟨S, 0, none⟩) n l :=
  (Rd.litE X xs l S n hS hxs hl hn).more (by rw [World.size_alloc, hS]; exact Nat.le_refl _)
theorem stayK {w v : World} {b : Nat} {o : Obj} (h : w.heap[b]? = some o) (hb : Below w.heap.size w v) : v.heap[b]? = some o := (hb.block _ (Blk_lt h)).trans h
theorem two_belowK {w w1 w2 : World} {B : Nat} (h1 : Below B w w1) (h2 : Below w1.heap.size w1 w2) (hB : B ≤ w1.heap.size) : Below B w w2 := h1.trans (h2.mono hB)
/-- a reading, behind new blocks -/
theorem Rd.allocS {w : World} {n : Nat} {A : Option Addr} {l : List UInt8} (h : Rd w w.heap.size A n l) (o : Obj) : Rd (w.alloc o) (w.alloc o).heap.size A n l := (h.alloc (Nat.le_refl _) o).more (by simp)
end Go.Proofs.Ytiogcdpmgomllaa.Kit
