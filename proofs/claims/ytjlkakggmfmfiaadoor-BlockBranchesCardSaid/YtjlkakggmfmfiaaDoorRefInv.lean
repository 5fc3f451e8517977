/- The reference's digest: what holds on its way. -/
import Derived.Test.YtjlkakggmfmfiaaDoorChecked
import Derived.Test.YtjlkakggmfmfiaaDoorStep
import Derived.Test.YtjlkakggmfmfiaaDoorSumPure
import Derived.Test.YtjlkakggmfmfiaaDoorMore2
import Derived.Test.YtjlkakggmfmfiaaDoorRefPure
import Derived.Deep.MidRow
import Derived.Deep.RegionHeld3
set_option maxRecDepth 100000
namespace Go.Proofs.YtjlkakggmfmfiaaDoor
open Go Go.RowKit
set_option maxHeartbeats 400000 in
theorem right_calls (x n : Int) (w : World) (h0 : 0 ≤ n) (h1 : n ≤ 31) :
    Calls Tryd.prog 64 #[.int .u32 x, .int .u64 n] w fun e w' => e = .returned (.int .u32 (rotr x n)) ∧ ∃ m, w' = w.drewN m := by
  go_enter Tryd.func64, Tryd.ntmps64
  go_wp2
  go_ret
  exact ⟨rfl, 0, rfl⟩
def zeros32R : List Int := List.replicate 32 0
structure RefInv (w wr : World) : Prop where
  below : Below w.heap.size w wr
  size : w.heap.size + 2 ≤ wr.heap.size
  b0 : wr.heap[w.heap.size]? = some (.cells (nums .u32 tabs72).toArray 31)
  b1 : wr.heap[w.heap.size + 1]? = some (.cells (nums .u8 zeros32R).toArray 24)
section
variable {w wr w' : World}
theorem RefInv.then_ (h : RefInv w wr) (hb : Below wr.heap.size wr w') : RefInv w w' :=
  ⟨below_then h.below (Nat.le_trans (by omega) h.size) hb, Nat.le_trans h.size hb.size, heap_below hb h.b0, heap_below hb h.b1⟩
theorem RefInv.alloc (h : RefInv w wr) (o : Obj) : RefInv w (wr.alloc o) := h.then_ ((Below.refl _ _).alloc (Nat.le_refl _) _)
theorem RefInv.drewN (h : RefInv w wr) (n : Nat) : RefInv w (wr.drewN n) := ⟨below_drewN h.below n, h.size, h.b0, h.b1⟩
theorem RefInv.grown {row : Option Nat} (h : RefInv w wr) (hg : wr.grownBy w' row) (hrow : ∀ k, row = some k → w.heap.size + 2 ≤ k) : RefInv w w' :=
  ⟨h.below.grown hg (Nat.le_trans (by omega) h.size) (fun k hk => by have := hrow k hk; omega), Nat.le_trans h.size hg.size,
    heap_grown hg h.b0 (fun e => by have := hrow _ e.symm; omega), heap_grown hg h.b1 (fun e => by have := hrow _ e.symm; omega)⟩
theorem RefInv.app {e : TypeId} {size n : Nat} {v : Value} {xs : List Value} (h : RefInv w wr) (ho : wr.ownsRow (w.heap.size + 2) e size v n xs) (hg : wr.grownBy w' v.ownBlock) : RefInv w w' :=
  h.grown hg (fun k hk => own_base ho k hk)
theorem RefInv.turned {g : Nat} (h : RefInv w wr) (ht : Turned wr g w') (hg : w.heap.size + 2 ≤ g) : RefInv w w' := h.grown ht.grown (fun k hk => by obtain rfl := Option.some.inj hk; exact hg)
end
theorem info8 : (Tryd.prog.info? 5).map (fun i => (i.zero, i.size, i.bytes)) = some (some (.int .u8 0), 1, 1) := by kernel_rfl
theorem info32 : (Tryd.prog.info? 27).map (fun i => (i.zero, i.size, i.bytes)) = some (some (.int .u32 0), 1, 4) := by kernel_rfl
theorem be8_drop (n i : Nat) (h : i < 8) : (be8 n).drop (8 - (i + 1)) = byteF n i :: (be8 n).drop (8 - i) := by
  rcases i with _ | _ | _ | _ | _ | _ | _ | _ | i <;> first | rfl | omega
theorem range_nums {w : World} {b o : Nat} {t : TypeId} {fz : Nat × Nat} {k : IntKind} {xs ys : List Int} (hb : w.heap[b]? = some (.cells (nums k xs).toArray t fz)) (h : ∀ j, j < ys.length → rd xs (o + j) = rd ys j) (hl : o + ys.length ≤ xs.length) :
    w.rangeAt b o (nums k ys) := fun j v hv => by
  have hj : j < ys.length := by have := (List.getElem?_eq_some_iff.1 hv).1; rwa [nums_length] at this
  rw [blk_num hb (o + j) (by omega), h j hj, ← nums_get k ys j hj, hv]
theorem own_cell {w : World} {base n c g : Nat} {e : TypeId} {k : IntKind} {xs : List Int} (h : w.ownsRow base e 1 (.slice (some ⟨g, 0, none⟩) n c) n (nums k xs)) (i : Nat) (hi : i < n) : w.cell? ⟨g, i, none⟩ = some (.int k (rd xs i)) := by
  have hl : xs.length = n := by have := h.1; rwa [nums_length, Nat.mul_one] at this
  have := h.cells (g := g) rfl i _ (nums_get k xs i (by omega))
  rwa [add_plain] at this
theorem blocks_le (n : Nat) : blocks n ≤ n / 64 + 2 := by unfold blocks; split <;> omega
theorem padz_lt (n : Nat) : padz n < 64 := by unfold padz; omega
def findB (n : Nat) : Code → Option Code
  | .loop c => findB n c
  | .seq a b => match findB n a with
    | some c => some c
    | none => findB n b
  | .block id c => if id = n then some (.block id c) else findB n c
  | .scope c => findB n c
  | .cond _ a b => match findB n a with
    | some c => some c
    | none => findB n b
  | _ => none
end Go.Proofs.YtjlkakggmfmfiaaDoor
