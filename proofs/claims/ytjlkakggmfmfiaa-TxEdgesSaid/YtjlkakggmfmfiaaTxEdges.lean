/- TxEdges: for every kind of bound, the law's call returns true and changes nothing: as much as there may be is taken, one more is not. -/
import Derived.Test.YtjlkakggmfmfiaaMakeK
import Derived.Test.YtjlkakggmfmfiaaMore2
import Derived.Test.YtjlkakggmfmfiaaRefEnc07
import Derived.Test.YtjlkakggmfmfiaaTxOk
import Derived.Test.YtjlkakggmfmfiaaMask
import Derived.Test.YtjlkakggmfmfiaaRows
set_option maxRecDepth 100000
set_option linter.unusedVariables false
namespace Go.Proofs.Ytjlkakggmfmfiaa
open Go Go.RowKit
theorem C_one {α : Type} {d : RK α} {S : Nat → Prop} {w : World} {g : Nat} {t : TypeId} {fz : Nat × Nat} {x : α} {cs : List Value} (h : w.heap[g]? = some (.cells cs.toArray t fz)) (hK : d.K S w x cs) (hS : S g) : d.C S w (some ⟨g, 0, none⟩) 1 [x] := by
  refine ⟨rfl, fun _ => ⟨g, 0, rfl, hS, heap_lt h, fun i y hy => ?_⟩⟩
  obtain rfl : i = 0 := by have := (List.getElem?_eq_some_iff.1 hy).1; simp at this; omega
  obtain rfl : x = y := by simpa using hy
  refine ⟨cs, hK, fun j v hv => ?_⟩
  rw [show 0 + 0 * d.sz + j = j by omega]
  exact blk_cell h (by rw [List.getElem?_toArray]; exact hv)
/-- What the transaction is behind the switch. -/
def EdgeSt (w wd : World) (g : Nat) (v : Value) (k m : Nat) : Prop := ∃ cs, v = .int .i64 (wantE k m) ∧ wd.heap[g]? = some (.cells cs.toArray 35) ∧ txK.K (fun _ => True) wd (tE k m) cs ∧ Below w.heap.size w wd
set_option maxHeartbeats 8000000 in
theorem txEdges_walk (w : World) (a b : Int) :
    Calls Try.prog 8 #[.int .i64 a, .int .i64 b] w fun e w' => e = .returned (.bool true) ∧ Below w.heap.size w w' := by
  have hU := Try.underlying35
  obtain ⟨k, hk, hk4⟩ : ∃ k : Nat, bits .and .i64 a 3 = (k : Int) ∧ k < 4 := ⟨(a % 4).toNat, by rw [i64_mask3]; omega, by omega⟩
  obtain ⟨m, hm, hm2⟩ : ∃ m : Nat, bits .and .i64 b 1 = (m : Int) ∧ m < 2 := ⟨(b % 2).toNat, by rw [i64_mask1]; omega, by omega⟩
  go_enter Try.func8, Try.ntmps8
  go_wp2_with fail
  refine (head07_calls w).mono ?_
  rintro e w1 ⟨rfl, hb1⟩
  go_upto_region 5 with (first | ((with_reducible refine wpList_at 17 ?_); refine wpList_build1 rfl 31 61 _ rfl Try.underlying31 _ 36 88 zinfo_in (by decide) (by decide) (inCells in0 (.slice none 0 0)) (inCells_length in0_len _) rfl rfl ?_))
  have hcell : ∀ wi : World, wi = ((w1.alloc (.cells (inCells in0 (.slice none 0 0)).toArray 61)).alloc (.cells #[.int .i64 0, .string ⟨#[]⟩] 63)).alloc (.cells (tCells 0 (.slice (some ⟨w1.heap.size, 0, none⟩) 1 1) (.slice (some ⟨w1.heap.size + 1, 0, none⟩) 1 1) 0) 35) →
      wi.heap[w1.heap.size]? = some (.cells (inCells in0 (.slice none 0 0)).toArray 61) ∧ wi.heap[w1.heap.size + 1]? = some (.cells #[.int .i64 0, .string ⟨#[]⟩] 63) ∧ wi.heap[w1.heap.size + 1 + 1]? = some (.cells (tCells 0 (.slice (some ⟨w1.heap.size, 0, none⟩) 1 1) (.slice (some ⟨w1.heap.size + 1, 0, none⟩) 1 1) 0) 35) ∧ Below w1.heap.size w1 wi ∧ wi.heap.size = w1.heap.size + 1 + 1 + 1 := by
    rintro wi rfl
    have h2 := heap_alloc_new (w1.alloc (.cells (inCells in0 (.slice none 0 0)).toArray 61)) (.cells #[.int .i64 0, .string ⟨#[]⟩] 63)
    have e2 : (w1.alloc (.cells (inCells in0 (.slice none 0 0)).toArray 61)).heap.size = w1.heap.size + 1 := by simp
    rw [e2] at h2
    have h3 := heap_alloc_new ((w1.alloc (.cells (inCells in0 (.slice none 0 0)).toArray 61)).alloc (.cells #[.int .i64 0, .string ⟨#[]⟩] 63)) (.cells (tCells 0 (.slice (some ⟨w1.heap.size, 0, none⟩) 1 1) (.slice (some ⟨w1.heap.size + 1, 0, none⟩) 1 1) 0) 35)
    refine ⟨blk_alloc (blk_alloc (heap_alloc_new w1 _) _) _, blk_alloc h2 _, by simpa using h3, ?_, by simp⟩
    exact (((Below.refl _ _).alloc (Nat.le_refl _) _).alloc (by simp) _).alloc (by simp; omega) _
  refine wp_gen (q := fun wi => wi.heap[w1.heap.size]? = some (.cells (inCells in0 (.slice none 0 0)).toArray 61) ∧ wi.heap[w1.heap.size + 1]? = some (.cells #[.int .i64 0, .string ⟨#[]⟩] 63) ∧ wi.heap[w1.heap.size + 1 + 1]? = some (.cells (tCells 0 (.slice (some ⟨w1.heap.size, 0, none⟩) 1 1) (.slice (some ⟨w1.heap.size + 1, 0, none⟩) 1 1) 0) 35) ∧ Below w1.heap.size w1 wi ∧ wi.heap.size = w1.heap.size + 1 + 1 + 1) (hcell _ rfl) (fun w0 hw => ?_)
  clear hcell
  obtain ⟨g1, g2, g3, hB0, hs0⟩ := hw
  have HS0 := Lib.hid hs0
  have hs0' : w1.heap.size + 1 + 1 + 1 ≤ w0.heap.size := by omega
  clear hs0
  have hBw := below_then hb1 hb1.size hB0
  have a0 := blk_cell g3 (i := 0) (v := .int .i32 0) rfl
  have a1 := blk_cell g3 (i := 1) (v := .slice (some ⟨w1.heap.size, 0, none⟩) 1 1) rfl
  have a2 := blk_cell g3 (i := 2) (v := .slice (some ⟨w1.heap.size + 1, 0, none⟩) 1 1) rfl
  have a3 := blk_cell g3 (i := 3) (v := .int .u32 0) rfl
  have f3 := fun i => blk_frozen g3 i
  go_upto_block 0 with fail
  go_cut [6] from 23 to 61 (fun v6 wd => EdgeSt w wd (w1.heap.size + 1 + 1) v6 k m)
  case first =>
    rcases (show k = 0 ∨ k = 1 ∨ k = 2 ∨ k = 3 by omega) with rfl | rfl | rfl | rfl
    · rcases (show m = 0 ∨ m = 1 by omega) with rfl | rfl
      · have hmk := run_makeZ (P := Try.prog) 31 61 (.agg (inCells in0 (.slice none 0 0)).toArray) 36 88 Try.underlying31 zinfo_in 1024 (by decide) (by decide) 1024 rfl w0
        have gm := heap_alloc_new w0 (.cells (madeCells (inCells in0 (.slice none 0 0)).toArray (1024 * 36)) 61)
        have hbm : Below w0.heap.size w0 (w0.alloc (.cells (madeCells (inCells in0 (.slice none 0 0)).toArray (1024 * 36)) 61)) := (Below.refl _ _).alloc (Nat.le_refl _) _
        obtain ⟨wm, hwm⟩ : ∃ wm, w0.alloc (.cells (madeCells (inCells in0 (.slice none 0 0)).toArray (1024 * 36)) 61) = wm := ⟨_, rfl⟩
        have hmk' : (Instr.makeSlice 31 (.int .i64 1024) (.int .i64 1024)).run Try.prog w0 = .ok (.slice (some ⟨w0.heap.size, 0, none⟩) 1024 1024) wm := by rw [← hwm]; exact hmk
        rw [hwm] at gm hbm
        clear hmk hwm
        have g1m := heap_below hbm g1
        have g2m := heap_below hbm g2
        have g3m := heap_below hbm g3
        have cm := blk_cell g3m (i := 1) (v := .slice (some ⟨w1.heap.size, 0, none⟩) 1 1) rfl
        have fm := blk_frozen g3m 1
        have hts := turned_setCell wm (w1.heap.size + 1 + 1) 1 (.slice (some ⟨w0.heap.size, 0, none⟩) 1024 1024)
        have hE : EdgeSt w (wm.setCell ⟨w1.heap.size + 1 + 1, 1, none⟩ (.slice (some ⟨w0.heap.size, 0, none⟩) 1024 1024)) (w1.heap.size + 1 + 1) (.int .i64 0) 0 0 :=
          ⟨[.int .i32 0, .slice (some ⟨w0.heap.size, 0, none⟩) 1024 1024, .slice (some ⟨w1.heap.size + 1, 0, none⟩) 1 1, .int .u32 0], rfl, blk_set g3m 1 _, ⟨some ⟨w0.heap.size, 0, none⟩, 1024, 1024, some ⟨w1.heap.size + 1, 0, none⟩, 1, 1, rfl, by decide, by decide, Nat.le_refl _, by decide, Nat.le_refl _, by decide, C_made (d := inK) rfl ⟨none, 0, 0, rfl, in0_ok, Nat.le_refl _, Nat.zero_le _, RK.C.nil _ _ _ _⟩ ((hts.block _ (by omega)).trans gm) trivial, (outK_one (x := ⟨0, ⟨#[]⟩⟩) ((hts.block _ (by omega)).trans g2m) out0_ok).mono (fun _ _ => trivial)⟩, hts.below (below_then hBw hBw.size hbm) (by have := hb1.size; omega)⟩
        have HE := Lib.hid hE
        clear hE hts gm hbm g1m g2m g3m
        go_wp2
        go_meet
        case rel => exact HE.out
      · have hmk := run_makeZ (P := Try.prog) 31 61 (.agg (inCells in0 (.slice none 0 0)).toArray) 36 88 Try.underlying31 zinfo_in 1025 (by decide) (by decide) 1025 rfl w0
        have gm := heap_alloc_new w0 (.cells (madeCells (inCells in0 (.slice none 0 0)).toArray (1025 * 36)) 61)
        have hbm : Below w0.heap.size w0 (w0.alloc (.cells (madeCells (inCells in0 (.slice none 0 0)).toArray (1025 * 36)) 61)) := (Below.refl _ _).alloc (Nat.le_refl _) _
        obtain ⟨wm, hwm⟩ : ∃ wm, w0.alloc (.cells (madeCells (inCells in0 (.slice none 0 0)).toArray (1025 * 36)) 61) = wm := ⟨_, rfl⟩
        have hmk' : (Instr.makeSlice 31 (.int .i64 1025) (.int .i64 1025)).run Try.prog w0 = .ok (.slice (some ⟨w0.heap.size, 0, none⟩) 1025 1025) wm := by rw [← hwm]; exact hmk
        rw [hwm] at gm hbm
        clear hmk hwm
        have g1m := heap_below hbm g1
        have g2m := heap_below hbm g2
        have g3m := heap_below hbm g3
        have cm := blk_cell g3m (i := 1) (v := .slice (some ⟨w1.heap.size, 0, none⟩) 1 1) rfl
        have fm := blk_frozen g3m 1
        have hts := turned_setCell wm (w1.heap.size + 1 + 1) 1 (.slice (some ⟨w0.heap.size, 0, none⟩) 1025 1025)
        have hE : EdgeSt w (wm.setCell ⟨w1.heap.size + 1 + 1, 1, none⟩ (.slice (some ⟨w0.heap.size, 0, none⟩) 1025 1025)) (w1.heap.size + 1 + 1) (.int .i64 3) 0 1 :=
          ⟨[.int .i32 0, .slice (some ⟨w0.heap.size, 0, none⟩) 1025 1025, .slice (some ⟨w1.heap.size + 1, 0, none⟩) 1 1, .int .u32 0], rfl, blk_set g3m 1 _, ⟨some ⟨w0.heap.size, 0, none⟩, 1025, 1025, some ⟨w1.heap.size + 1, 0, none⟩, 1, 1, rfl, by decide, by decide, Nat.le_refl _, by decide, Nat.le_refl _, by decide, C_made (d := inK) rfl ⟨none, 0, 0, rfl, in0_ok, Nat.le_refl _, Nat.zero_le _, RK.C.nil _ _ _ _⟩ ((hts.block _ (by omega)).trans gm) trivial, (outK_one (x := ⟨0, ⟨#[]⟩⟩) ((hts.block _ (by omega)).trans g2m) out0_ok).mono (fun _ _ => trivial)⟩, hts.below (below_then hBw hBw.size hbm) (by have := hb1.size; omega)⟩
        have HE := Lib.hid hE
        clear hE hts gm hbm g1m g2m g3m
        go_wp2
        go_meet
        case rel => exact HE.out
    · rcases (show m = 0 ∨ m = 1 by omega) with rfl | rfl
      · have hmk := run_makeZ (P := Try.prog) 32 63 (.agg #[.int .i64 0, .string ⟨#[]⟩]) 2 24 Try.underlying32 zinfo_out 1024 (by decide) (by decide) 1024 rfl w0
        have gm := heap_alloc_new w0 (.cells (madeCells #[.int .i64 0, .string ⟨#[]⟩] (1024 * 2)) 63)
        have hbm : Below w0.heap.size w0 (w0.alloc (.cells (madeCells #[.int .i64 0, .string ⟨#[]⟩] (1024 * 2)) 63)) := (Below.refl _ _).alloc (Nat.le_refl _) _
        obtain ⟨wm, hwm⟩ : ∃ wm, w0.alloc (.cells (madeCells #[.int .i64 0, .string ⟨#[]⟩] (1024 * 2)) 63) = wm := ⟨_, rfl⟩
        have hmk' : (Instr.makeSlice 32 (.int .i64 1024) (.int .i64 1024)).run Try.prog w0 = .ok (.slice (some ⟨w0.heap.size, 0, none⟩) 1024 1024) wm := by rw [← hwm]; exact hmk
        rw [hwm] at gm hbm
        clear hmk hwm
        have g1m := heap_below hbm g1
        have g2m := heap_below hbm g2
        have g3m := heap_below hbm g3
        have cm := blk_cell g3m (i := 2) (v := .slice (some ⟨w1.heap.size + 1, 0, none⟩) 1 1) rfl
        have fm := blk_frozen g3m 2
        have hts := turned_setCell wm (w1.heap.size + 1 + 1) 2 (.slice (some ⟨w0.heap.size, 0, none⟩) 1024 1024)
        have hE : EdgeSt w (wm.setCell ⟨w1.heap.size + 1 + 1, 2, none⟩ (.slice (some ⟨w0.heap.size, 0, none⟩) 1024 1024)) (w1.heap.size + 1 + 1) (.int .i64 0) 1 0 :=
          ⟨[.int .i32 0, .slice (some ⟨w1.heap.size, 0, none⟩) 1 1, .slice (some ⟨w0.heap.size, 0, none⟩) 1024 1024, .int .u32 0], rfl, blk_set g3m 2 _, ⟨some ⟨w1.heap.size, 0, none⟩, 1, 1, some ⟨w0.heap.size, 0, none⟩, 1024, 1024, rfl, by decide, by decide, Nat.le_refl _, by decide, Nat.le_refl _, by decide, inK_one trivial ((hts.block _ (by omega)).trans g1m) in0_ok rfl, C_made (d := outK) rfl ⟨rfl, out0_ok⟩ ((hts.block _ (by omega)).trans gm) trivial⟩, hts.below (below_then hBw hBw.size hbm) (by have := hb1.size; omega)⟩
        have HE := Lib.hid hE
        clear hE hts gm hbm g1m g2m g3m
        go_wp2
        go_meet
        case rel => exact HE.out
      · have hmk := run_makeZ (P := Try.prog) 32 63 (.agg #[.int .i64 0, .string ⟨#[]⟩]) 2 24 Try.underlying32 zinfo_out 1025 (by decide) (by decide) 1025 rfl w0
        have gm := heap_alloc_new w0 (.cells (madeCells #[.int .i64 0, .string ⟨#[]⟩] (1025 * 2)) 63)
        have hbm : Below w0.heap.size w0 (w0.alloc (.cells (madeCells #[.int .i64 0, .string ⟨#[]⟩] (1025 * 2)) 63)) := (Below.refl _ _).alloc (Nat.le_refl _) _
        obtain ⟨wm, hwm⟩ : ∃ wm, w0.alloc (.cells (madeCells #[.int .i64 0, .string ⟨#[]⟩] (1025 * 2)) 63) = wm := ⟨_, rfl⟩
        have hmk' : (Instr.makeSlice 32 (.int .i64 1025) (.int .i64 1025)).run Try.prog w0 = .ok (.slice (some ⟨w0.heap.size, 0, none⟩) 1025 1025) wm := by rw [← hwm]; exact hmk
        rw [hwm] at gm hbm
        clear hmk hwm
        have g1m := heap_below hbm g1
        have g2m := heap_below hbm g2
        have g3m := heap_below hbm g3
        have cm := blk_cell g3m (i := 2) (v := .slice (some ⟨w1.heap.size + 1, 0, none⟩) 1 1) rfl
        have fm := blk_frozen g3m 2
        have hts := turned_setCell wm (w1.heap.size + 1 + 1) 2 (.slice (some ⟨w0.heap.size, 0, none⟩) 1025 1025)
        have hE : EdgeSt w (wm.setCell ⟨w1.heap.size + 1 + 1, 2, none⟩ (.slice (some ⟨w0.heap.size, 0, none⟩) 1025 1025)) (w1.heap.size + 1 + 1) (.int .i64 3) 1 1 :=
          ⟨[.int .i32 0, .slice (some ⟨w1.heap.size, 0, none⟩) 1 1, .slice (some ⟨w0.heap.size, 0, none⟩) 1025 1025, .int .u32 0], rfl, blk_set g3m 2 _, ⟨some ⟨w1.heap.size, 0, none⟩, 1, 1, some ⟨w0.heap.size, 0, none⟩, 1025, 1025, rfl, by decide, by decide, Nat.le_refl _, by decide, Nat.le_refl _, by decide, inK_one trivial ((hts.block _ (by omega)).trans g1m) in0_ok rfl, C_made (d := outK) rfl ⟨rfl, out0_ok⟩ ((hts.block _ (by omega)).trans gm) trivial⟩, hts.below (below_then hBw hBw.size hbm) (by have := hb1.size; omega)⟩
        have HE := Lib.hid hE
        clear hE hts gm hbm g1m g2m g3m
        go_wp2
        go_meet
        case rel => exact HE.out
    · rcases (show m = 0 ∨ m = 1 by omega) with rfl | rfl
      · have hmk := run_makeZ (P := Try.prog) 59 9 (.string ⟨#[]⟩) 1 16 Try.underlying59 zinfo_str 100 (by decide) (by decide) 100 rfl w0.drew
        have gm := heap_alloc_new w0.drew (.cells (madeCells #[.string ⟨#[]⟩] (100 * 1)) 9)
        have hbm : Below w0.heap.size w0 (w0.drew.alloc (.cells (madeCells #[.string ⟨#[]⟩] (100 * 1)) 9)) := (Below.drew (Below.refl _ _)).alloc (Nat.le_refl _) _
        obtain ⟨wm, hwm⟩ : ∃ wm, w0.drew.alloc (.cells (madeCells #[.string ⟨#[]⟩] (100 * 1)) 9) = wm := ⟨_, rfl⟩
        have hmk' : (Instr.makeSlice 59 (.int .i64 100) (.int .i64 100)).run Try.prog w0.drew = .ok (.slice (some ⟨w0.heap.size, 0, none⟩) 100 100) wm := by rw [← hwm]; exact hmk
        rw [hwm] at gm hbm
        clear hmk hwm
        have gm' : wm.heap[w0.heap.size]? = some (.cells (madeCells #[.string ⟨#[]⟩] (100 * 1)) 9) := gm
        have g1m := heap_below hbm g1
        have g2m := heap_below hbm g2
        have g3m := heap_below hbm g3
        have cm := blk_cell g3m (i := 1) (v := .slice (some ⟨w1.heap.size, 0, none⟩) 1 1) rfl
        have c35 := blk_cell g1m (i := 35) (v := .slice none 0 0) (by rw [List.getElem?_toArray]; exact inCells_at in0_len _ 3)
        have f35 := blk_frozen g1m 35
        have hts := turned_setCell wm w1.heap.size 35 (.slice (some ⟨w0.heap.size, 0, none⟩) 100 100)
        have hg35 : (wm.setCell ⟨w1.heap.size, 35, none⟩ (.slice (some ⟨w0.heap.size, 0, none⟩) 100 100)).heap[w1.heap.size]? = some (.cells (inCells { in0 with wit := List.replicate 100 ⟨#[]⟩ } (.slice (some ⟨w0.heap.size, 0, none⟩) 100 100)).toArray 61) := by
          rw [blk_set g1m]
          congr 2
        have hok2 : ({ in0 with wit := List.replicate 100 ⟨#[]⟩ } : TIn).Ok := ⟨in0_ok.idl, in0_ok.idb, in0_ok.o0, in0_ok.o1, in0_ok.s0, in0_ok.s1, in0_ok.sc, (fun s hs => by rw [List.eq_of_mem_replicate hs]; decide)⟩
        have hE : EdgeSt w (wm.setCell ⟨w1.heap.size, 35, none⟩ (.slice (some ⟨w0.heap.size, 0, none⟩) 100 100)) (w1.heap.size + 1 + 1) (.int .i64 0) 2 0 :=
          ⟨[.int .i32 0, .slice (some ⟨w1.heap.size, 0, none⟩) 1 1, .slice (some ⟨w1.heap.size + 1, 0, none⟩) 1 1, .int .u32 0], rfl, (hts.block _ (by omega)).trans g3m, ⟨some ⟨w1.heap.size, 0, none⟩, 1, 1, some ⟨w1.heap.size + 1, 0, none⟩, 1, 1, rfl, by decide, by decide, Nat.le_refl _, by decide, Nat.le_refl _, by decide, C_one (d := inK) hg35 ⟨some ⟨w0.heap.size, 0, none⟩, 100, 100, rfl, hok2, Nat.le_refl _, by decide, C_made (d := RK.str) rfl ⟨rfl, by decide⟩ ((hts.block _ (by omega)).trans gm') trivial⟩ trivial, (outK_one (x := ⟨0, ⟨#[]⟩⟩) ((hts.block _ (by omega)).trans g2m) out0_ok).mono (fun _ _ => trivial)⟩, hts.below (below_then hBw hBw.size hbm) (by have := hb1.size; omega)⟩
        have HE := Lib.hid hE
        have hwN : IntKind.i64.wrap (100 : Int) = 100 := by decide
        clear hE gm hbm g1m g2m g3m hg35 hok2
        go_upto_region 16 with fail
        refine wp_region_noPanic ?_
        refine wp_region_held_drew (S := fun w' => w'.cell? ⟨w1.heap.size + 1 + 1, 1, none⟩ = some (.slice (some ⟨w1.heap.size, 0, none⟩) 1 1)) (by kernel_rfl) a1 (fun hHeld => ?_)
        -- 0: law.go:190 slot 41 := Op.fieldAddr 35 t5 1
        refine wpAnyH_take (i := 0) (oi := ⟨some 41, _, _, _, _, _⟩) (v := ?_) rfl (by kernel_rfl) (by kernel_rfl) (by kernel_rfl) (fun _ _ _ h => h) (Or.inl ⟨by rfl, ?_⟩) (by assumption) ?_
        rotate_left 1
        · intro w hSw; (try dsimp only at hSw); go_simp; try with_reducible rfl
        simp only [Act.put, List.setIfInBounds_toArray, List.set_cons_zero, List.set_cons_succ]
        -- 1: law.go:190 slot 42 := Op.load 31 t41
        refine wpAnyH_take (i := 1) (oi := ⟨some 42, _, _, _, _, _⟩) (v := ?_) rfl (by kernel_rfl) (by kernel_rfl) (by kernel_rfl) (fun _ _ _ h => h) (Or.inl ⟨by rfl, ?_⟩) (by assumption) ?_
        rotate_left 1
        · intro w hSw; (try dsimp only at hSw); go_simp; try with_reducible rfl
        simp only [Act.put, List.setIfInBounds_toArray, List.set_cons_zero, List.set_cons_succ]
        -- 2: law.go:190 slot 43 := Op.move t1
        refine wpAnyH_take (i := 2) (oi := ⟨some 43, _, _, _, _, _⟩) (v := ?_) rfl (by kernel_rfl) (by kernel_rfl) (by kernel_rfl) (fun _ _ _ h => h) (Or.inl ⟨by rfl, ?_⟩) (by assumption) ?_
        rotate_left 1
        · intro w hSw; (try dsimp only at hSw); go_simp; try with_reducible rfl
        simp only [Act.put, List.setIfInBounds_toArray, List.set_cons_zero, List.set_cons_succ]
        -- 3: law.go:190 slot 44 := Op.binOp BinOp.add 3 (const (100:i64)) t43 3
        refine wpAnyH_take (i := 3) (oi := ⟨some 44, _, _, _, _, _⟩) (v := ?_) rfl (by kernel_rfl) (by kernel_rfl) (by kernel_rfl) (fun _ _ _ h => h) (Or.inl ⟨by rfl, ?_⟩) (by assumption) ?_
        rotate_left 1
        · intro w hSw; (try dsimp only at hSw); go_simp; try with_reducible rfl
        simp only [Act.put, List.setIfInBounds_toArray, List.set_cons_zero, List.set_cons_succ]
        -- 4: law.go:190 slot 45 := Op.makeSlice 59 t44 t44
        refine wpAnyH_ready (rs := [4]) (by kernel_rfl) (by simp) ?_
        refine AllReadyH.cons (o := ⟨some 45, _, _, _, _, _⟩) rfl (fun K hK => ?_) AllReadyH.nil
        go_simp
        refine hK.out _ _ cm (fun hHeld' => ?_)
        clear hHeld
        have hHeld := hHeld'
        clear hHeld'
        clear hK K
        try (simp only [Act.put, List.setIfInBounds_toArray, List.set_cons_zero, List.set_cons_succ])
        -- 5: law.go:190 slot 46 := Op.indexAddr 31 t42 (const (0:i64))
        refine wpAnyH_take (i := 5) (oi := ⟨some 46, _, _, _, _, _⟩) (v := ?_) rfl (by kernel_rfl) (by kernel_rfl) (by kernel_rfl) (fun _ _ _ h => h) (Or.inl ⟨by rfl, ?_⟩) (by assumption) ?_
        rotate_left 1
        · intro w hSw; (try dsimp only at hSw); go_simp; try with_reducible rfl
        simp only [Act.put, List.setIfInBounds_toArray, List.set_cons_zero, List.set_cons_succ]
        -- 6: law.go:190 slot 47 := Op.fieldAddr 61 t46 3
        refine wpAnyH_take (i := 6) (oi := ⟨some 47, _, _, _, _, _⟩) (v := ?_) rfl (by kernel_rfl) (by kernel_rfl) (by kernel_rfl) (fun _ _ _ h => h) (Or.inl ⟨by rfl, ?_⟩) (by assumption) ?_
        rotate_left 1
        · intro w hSw; (try dsimp only at hSw); go_simp; try with_reducible rfl
        simp only [Act.put, List.setIfInBounds_toArray, List.set_cons_zero, List.set_cons_succ]
        -- 7: law.go:190 slot none := Op.store 59 t47 t45
        refine wpAnyH_ready (rs := [7]) (by kernel_rfl) (by simp) ?_
        refine AllReadyH.cons (o := ⟨none, _, _, _, _, _⟩) rfl (fun K hK => ?_) AllReadyH.nil
        go_simp
        refine hK.out _ _ ((hts.cell (by omega)).trans cm) (fun hHeld' => ?_)
        clear hHeld
        have hHeld := hHeld'
        clear hHeld'
        clear hK K
        try (simp only [Act.put])
        refine wpAnyH_done (by kernel_rfl) ?_ _
        refine NoPanic.normal ?_
        clear hHeld
        go_wp2
        go_meet
        case rel => exact HE.out
      · have hmk := run_makeZ (P := Try.prog) 59 9 (.string ⟨#[]⟩) 1 16 Try.underlying59 zinfo_str 101 (by decide) (by decide) 101 rfl w0.drew
        have gm := heap_alloc_new w0.drew (.cells (madeCells #[.string ⟨#[]⟩] (101 * 1)) 9)
        have hbm : Below w0.heap.size w0 (w0.drew.alloc (.cells (madeCells #[.string ⟨#[]⟩] (101 * 1)) 9)) := (Below.drew (Below.refl _ _)).alloc (Nat.le_refl _) _
        obtain ⟨wm, hwm⟩ : ∃ wm, w0.drew.alloc (.cells (madeCells #[.string ⟨#[]⟩] (101 * 1)) 9) = wm := ⟨_, rfl⟩
        have hmk' : (Instr.makeSlice 59 (.int .i64 101) (.int .i64 101)).run Try.prog w0.drew = .ok (.slice (some ⟨w0.heap.size, 0, none⟩) 101 101) wm := by rw [← hwm]; exact hmk
        rw [hwm] at gm hbm
        clear hmk hwm
        have gm' : wm.heap[w0.heap.size]? = some (.cells (madeCells #[.string ⟨#[]⟩] (101 * 1)) 9) := gm
        have g1m := heap_below hbm g1
        have g2m := heap_below hbm g2
        have g3m := heap_below hbm g3
        have cm := blk_cell g3m (i := 1) (v := .slice (some ⟨w1.heap.size, 0, none⟩) 1 1) rfl
        have c35 := blk_cell g1m (i := 35) (v := .slice none 0 0) (by rw [List.getElem?_toArray]; exact inCells_at in0_len _ 3)
        have f35 := blk_frozen g1m 35
        have hts := turned_setCell wm w1.heap.size 35 (.slice (some ⟨w0.heap.size, 0, none⟩) 101 101)
        have hg35 : (wm.setCell ⟨w1.heap.size, 35, none⟩ (.slice (some ⟨w0.heap.size, 0, none⟩) 101 101)).heap[w1.heap.size]? = some (.cells (inCells { in0 with wit := List.replicate 101 ⟨#[]⟩ } (.slice (some ⟨w0.heap.size, 0, none⟩) 101 101)).toArray 61) := by
          rw [blk_set g1m]
          congr 2
        have hok2 : ({ in0 with wit := List.replicate 101 ⟨#[]⟩ } : TIn).Ok := ⟨in0_ok.idl, in0_ok.idb, in0_ok.o0, in0_ok.o1, in0_ok.s0, in0_ok.s1, in0_ok.sc, (fun s hs => by rw [List.eq_of_mem_replicate hs]; decide)⟩
        have hE : EdgeSt w (wm.setCell ⟨w1.heap.size, 35, none⟩ (.slice (some ⟨w0.heap.size, 0, none⟩) 101 101)) (w1.heap.size + 1 + 1) (.int .i64 3) 2 1 :=
          ⟨[.int .i32 0, .slice (some ⟨w1.heap.size, 0, none⟩) 1 1, .slice (some ⟨w1.heap.size + 1, 0, none⟩) 1 1, .int .u32 0], rfl, (hts.block _ (by omega)).trans g3m, ⟨some ⟨w1.heap.size, 0, none⟩, 1, 1, some ⟨w1.heap.size + 1, 0, none⟩, 1, 1, rfl, by decide, by decide, Nat.le_refl _, by decide, Nat.le_refl _, by decide, C_one (d := inK) hg35 ⟨some ⟨w0.heap.size, 0, none⟩, 101, 101, rfl, hok2, Nat.le_refl _, by decide, C_made (d := RK.str) rfl ⟨rfl, by decide⟩ ((hts.block _ (by omega)).trans gm') trivial⟩ trivial, (outK_one (x := ⟨0, ⟨#[]⟩⟩) ((hts.block _ (by omega)).trans g2m) out0_ok).mono (fun _ _ => trivial)⟩, hts.below (below_then hBw hBw.size hbm) (by have := hb1.size; omega)⟩
        have HE := Lib.hid hE
        have hwN : IntKind.i64.wrap (101 : Int) = 101 := by decide
        clear hE gm hbm g1m g2m g3m hg35 hok2
        go_upto_region 16 with fail
        refine wp_region_noPanic ?_
        refine wp_region_held_drew (S := fun w' => w'.cell? ⟨w1.heap.size + 1 + 1, 1, none⟩ = some (.slice (some ⟨w1.heap.size, 0, none⟩) 1 1)) (by kernel_rfl) a1 (fun hHeld => ?_)
        -- 0: law.go:190 slot 41 := Op.fieldAddr 35 t5 1
        refine wpAnyH_take (i := 0) (oi := ⟨some 41, _, _, _, _, _⟩) (v := ?_) rfl (by kernel_rfl) (by kernel_rfl) (by kernel_rfl) (fun _ _ _ h => h) (Or.inl ⟨by rfl, ?_⟩) (by assumption) ?_
        rotate_left 1
        · intro w hSw; (try dsimp only at hSw); go_simp; try with_reducible rfl
        simp only [Act.put, List.setIfInBounds_toArray, List.set_cons_zero, List.set_cons_succ]
        -- 1: law.go:190 slot 42 := Op.load 31 t41
        refine wpAnyH_take (i := 1) (oi := ⟨some 42, _, _, _, _, _⟩) (v := ?_) rfl (by kernel_rfl) (by kernel_rfl) (by kernel_rfl) (fun _ _ _ h => h) (Or.inl ⟨by rfl, ?_⟩) (by assumption) ?_
        rotate_left 1
        · intro w hSw; (try dsimp only at hSw); go_simp; try with_reducible rfl
        simp only [Act.put, List.setIfInBounds_toArray, List.set_cons_zero, List.set_cons_succ]
        -- 2: law.go:190 slot 43 := Op.move t1
        refine wpAnyH_take (i := 2) (oi := ⟨some 43, _, _, _, _, _⟩) (v := ?_) rfl (by kernel_rfl) (by kernel_rfl) (by kernel_rfl) (fun _ _ _ h => h) (Or.inl ⟨by rfl, ?_⟩) (by assumption) ?_
        rotate_left 1
        · intro w hSw; (try dsimp only at hSw); go_simp; try with_reducible rfl
        simp only [Act.put, List.setIfInBounds_toArray, List.set_cons_zero, List.set_cons_succ]
        -- 3: law.go:190 slot 44 := Op.binOp BinOp.add 3 (const (100:i64)) t43 3
        refine wpAnyH_take (i := 3) (oi := ⟨some 44, _, _, _, _, _⟩) (v := ?_) rfl (by kernel_rfl) (by kernel_rfl) (by kernel_rfl) (fun _ _ _ h => h) (Or.inl ⟨by rfl, ?_⟩) (by assumption) ?_
        rotate_left 1
        · intro w hSw; (try dsimp only at hSw); go_simp; try with_reducible rfl
        simp only [Act.put, List.setIfInBounds_toArray, List.set_cons_zero, List.set_cons_succ]
        -- 4: law.go:190 slot 45 := Op.makeSlice 59 t44 t44
        refine wpAnyH_ready (rs := [4]) (by kernel_rfl) (by simp) ?_
        refine AllReadyH.cons (o := ⟨some 45, _, _, _, _, _⟩) rfl (fun K hK => ?_) AllReadyH.nil
        go_simp
        refine hK.out _ _ cm (fun hHeld' => ?_)
        clear hHeld
        have hHeld := hHeld'
        clear hHeld'
        clear hK K
        try (simp only [Act.put, List.setIfInBounds_toArray, List.set_cons_zero, List.set_cons_succ])
        -- 5: law.go:190 slot 46 := Op.indexAddr 31 t42 (const (0:i64))
        refine wpAnyH_take (i := 5) (oi := ⟨some 46, _, _, _, _, _⟩) (v := ?_) rfl (by kernel_rfl) (by kernel_rfl) (by kernel_rfl) (fun _ _ _ h => h) (Or.inl ⟨by rfl, ?_⟩) (by assumption) ?_
        rotate_left 1
        · intro w hSw; (try dsimp only at hSw); go_simp; try with_reducible rfl
        simp only [Act.put, List.setIfInBounds_toArray, List.set_cons_zero, List.set_cons_succ]
        -- 6: law.go:190 slot 47 := Op.fieldAddr 61 t46 3
        refine wpAnyH_take (i := 6) (oi := ⟨some 47, _, _, _, _, _⟩) (v := ?_) rfl (by kernel_rfl) (by kernel_rfl) (by kernel_rfl) (fun _ _ _ h => h) (Or.inl ⟨by rfl, ?_⟩) (by assumption) ?_
        rotate_left 1
        · intro w hSw; (try dsimp only at hSw); go_simp; try with_reducible rfl
        simp only [Act.put, List.setIfInBounds_toArray, List.set_cons_zero, List.set_cons_succ]
        -- 7: law.go:190 slot none := Op.store 59 t47 t45
        refine wpAnyH_ready (rs := [7]) (by kernel_rfl) (by simp) ?_
        refine AllReadyH.cons (o := ⟨none, _, _, _, _, _⟩) rfl (fun K hK => ?_) AllReadyH.nil
        go_simp
        refine hK.out _ _ ((hts.cell (by omega)).trans cm) (fun hHeld' => ?_)
        clear hHeld
        have hHeld := hHeld'
        clear hHeld'
        clear hK K
        try (simp only [Act.put])
        refine wpAnyH_done (by kernel_rfl) ?_ _
        refine NoPanic.normal ?_
        clear hHeld
        go_wp2
        go_meet
        case rel => exact HE.out
    · rcases (show m = 0 ∨ m = 1 by omega) with rfl | rfl
      · obtain ⟨zs, hzs⟩ : ∃ zs : List Int, List.replicate 10000 0 = zs := ⟨_, rfl⟩
        have hzl : zs.length = 10000 := by rw [← hzs, List.length_replicate]
        have hmk := make_nums (P := Try.prog) w0.drew 36 5 .u8 1 Try.underlying36 infoU8 10000 (by decide) (by decide)
        have hE3 : tE 3 0 = ⟨0, [in0], [⟨0, strOfNums zs⟩], 0⟩ := by rw [← hzs]; rfl
        rw [hzs] at hmk
        have gm := heap_alloc_new w0.drew (.cells (nums .u8 zs).toArray 5)
        have hbm : Below w0.heap.size w0 (w0.drew.alloc (.cells (nums .u8 zs).toArray 5)) := (Below.drew (Below.refl _ _)).alloc (Nat.le_refl _) _
        obtain ⟨wm, hwm⟩ : ∃ wm, w0.drew.alloc (.cells (nums .u8 zs).toArray 5) = wm := ⟨_, rfl⟩
        have hmk' : (Instr.makeSlice 36 (.int .i64 10000) (.int .i64 10000)).run Try.prog w0.drew = .ok (.slice (some ⟨w0.heap.size, 0, none⟩) 10000 10000) wm := by rw [← hwm]; exact hmk
        rw [hwm] at gm hbm
        clear hmk hwm
        have hrz : Rd wm (some ⟨w0.heap.size, 0, none⟩) 10000 (nums .u8 zs) := by
          have := Rd.of_block0 gm
          rw [nums_length, hzl] at this
          exact this
        have kc := conv_rd (P := Try.prog) (src := 36) (dst := 9) (c := 10000) Try.underlying36 Try.underlying5 Try.underlying9 hrz
        have HZ := Lib.hid hzs
        have HZL := Lib.hid hzl
        have g1m := heap_below hbm g1
        have g2m := heap_below hbm g2
        have g3m := heap_below hbm g3
        have cm := blk_cell g3m (i := 2) (v := .slice (some ⟨w1.heap.size + 1, 0, none⟩) 1 1) rfl
        have c1m := blk_cell g2m (i := 1) (v := .string ⟨#[]⟩) rfl
        have f1m := blk_frozen g2m 1
        have hts := turned_setCell wm (w1.heap.size + 1) 1 (.string (strOfNums zs))
        have hok2 : (⟨0, strOfNums zs⟩ : TOut).Ok := ⟨(show (-9223372036854775808 : Int) ≤ 0 by decide), (show (0 : Int) ≤ 9223372036854775807 by decide), by show (strOfNums zs).size ≤ maxLen; rw [strOfNums_size, hzl]; decide⟩
        have hE : EdgeSt w (wm.setCell ⟨w1.heap.size + 1, 1, none⟩ (.string (strOfNums zs))) (w1.heap.size + 1 + 1) (.int .i64 0) 3 0 := by
          unfold EdgeSt
          rw [hE3]
          exact ⟨[.int .i32 0, .slice (some ⟨w1.heap.size, 0, none⟩) 1 1, .slice (some ⟨w1.heap.size + 1, 0, none⟩) 1 1, .int .u32 0], rfl, (hts.block _ (by omega)).trans g3m, ⟨some ⟨w1.heap.size, 0, none⟩, 1, 1, some ⟨w1.heap.size + 1, 0, none⟩, 1, 1, rfl, (show (-2147483648 : Int) ≤ 0 ∧ (0 : Int) ≤ 2147483647 by decide), (show (0 : Int) ≤ 0 ∧ (0 : Int) ≤ 4294967295 by decide), Nat.le_refl _, by decide, Nat.le_refl _, by decide, inK_one trivial ((hts.block _ (by omega)).trans g1m) in0_ok rfl, (outK_one (x := ⟨0, strOfNums zs⟩) (blk_set g2m 1 _) hok2).mono (fun _ _ => trivial)⟩, hts.below (below_then hBw hBw.size hbm) (by have := hb1.size; omega)⟩
        have HE := Lib.hid hE
        have hwN : IntKind.i64.wrap (10000 : Int) = 10000 := by decide
        clear hE gm hbm g1m g2m g3m hok2 hE3 hrz hzs hzl
        go_upto_region 20 with fail
        refine wp_region_noPanic ?_
        refine wp_region_held_drew (S := fun w' => w'.cell? ⟨w1.heap.size + 1 + 1, 2, none⟩ = some (.slice (some ⟨w1.heap.size + 1, 0, none⟩) 1 1)) (by kernel_rfl) a2 (fun hHeld => ?_)
        -- 0: law.go:195 slot 52 := Op.fieldAddr 35 t5 2
        refine wpAnyH_take (i := 0) (oi := ⟨some 52, _, _, _, _, _⟩) (v := ?_) rfl (by kernel_rfl) (by kernel_rfl) (by kernel_rfl) (fun _ _ _ h => h) (Or.inl ⟨by rfl, ?_⟩) (by assumption) ?_
        rotate_left 1
        · intro w hSw; (try dsimp only at hSw); go_simp; try with_reducible rfl
        simp only [Act.put, List.setIfInBounds_toArray, List.set_cons_zero, List.set_cons_succ]
        -- 1: law.go:195 slot 53 := Op.load 32 t52
        refine wpAnyH_take (i := 1) (oi := ⟨some 53, _, _, _, _, _⟩) (v := ?_) rfl (by kernel_rfl) (by kernel_rfl) (by kernel_rfl) (fun _ _ _ h => h) (Or.inl ⟨by rfl, ?_⟩) (by assumption) ?_
        rotate_left 1
        · intro w hSw; (try dsimp only at hSw); go_simp; try with_reducible rfl
        simp only [Act.put, List.setIfInBounds_toArray, List.set_cons_zero, List.set_cons_succ]
        -- 2: law.go:195 slot 54 := Op.move t1
        refine wpAnyH_take (i := 2) (oi := ⟨some 54, _, _, _, _, _⟩) (v := ?_) rfl (by kernel_rfl) (by kernel_rfl) (by kernel_rfl) (fun _ _ _ h => h) (Or.inl ⟨by rfl, ?_⟩) (by assumption) ?_
        rotate_left 1
        · intro w hSw; (try dsimp only at hSw); go_simp; try with_reducible rfl
        simp only [Act.put, List.setIfInBounds_toArray, List.set_cons_zero, List.set_cons_succ]
        -- 3: law.go:195 slot 55 := Op.binOp BinOp.add 3 (const (10000:i64)) t54 3
        refine wpAnyH_take (i := 3) (oi := ⟨some 55, _, _, _, _, _⟩) (v := ?_) rfl (by kernel_rfl) (by kernel_rfl) (by kernel_rfl) (fun _ _ _ h => h) (Or.inl ⟨by rfl, ?_⟩) (by assumption) ?_
        rotate_left 1
        · intro w hSw; (try dsimp only at hSw); go_simp; try with_reducible rfl
        simp only [Act.put, List.setIfInBounds_toArray, List.set_cons_zero, List.set_cons_succ]
        -- 4: law.go:195 slot 56 := Op.makeSlice 36 t55 t55
        refine wpAnyH_ready (rs := [4]) (by kernel_rfl) (by simp) ?_
        refine AllReadyH.cons (o := ⟨some 56, _, _, _, _, _⟩) rfl (fun K hK => ?_) AllReadyH.nil
        go_simp
        refine hK.out _ _ cm (fun hHeld' => ?_)
        clear hHeld
        have hHeld := hHeld'
        clear hHeld'
        clear hK K
        try (simp only [Act.put, List.setIfInBounds_toArray, List.set_cons_zero, List.set_cons_succ])
        -- 5: law.go:195 slot 57 := Op.convert 36 9 t56
        refine wpAnyH_ready (rs := [5]) (by kernel_rfl) (by simp) ?_
        refine AllReadyH.cons (o := ⟨some 57, _, _, _, _, _⟩) rfl (fun K hK => ?_) AllReadyH.nil
        go_simp
        refine hK.out _ _ cm (fun hHeld' => ?_)
        clear hHeld
        have hHeld := hHeld'
        clear hHeld'
        clear hK K
        try (simp only [Act.put, List.setIfInBounds_toArray, List.set_cons_zero, List.set_cons_succ])
        -- 6: law.go:195 slot 58 := Op.indexAddr 32 t53 (const (0:i64))
        refine wpAnyH_take (i := 6) (oi := ⟨some 58, _, _, _, _, _⟩) (v := ?_) rfl (by kernel_rfl) (by kernel_rfl) (by kernel_rfl) (fun _ _ _ h => h) (Or.inl ⟨by rfl, ?_⟩) (by assumption) ?_
        rotate_left 1
        · intro w hSw; (try dsimp only at hSw); go_simp; try with_reducible rfl
        simp only [Act.put, List.setIfInBounds_toArray, List.set_cons_zero, List.set_cons_succ]
        -- 7: law.go:195 slot 59 := Op.fieldAddr 63 t58 1
        refine wpAnyH_take (i := 7) (oi := ⟨some 59, _, _, _, _, _⟩) (v := ?_) rfl (by kernel_rfl) (by kernel_rfl) (by kernel_rfl) (fun _ _ _ h => h) (Or.inl ⟨by rfl, ?_⟩) (by assumption) ?_
        rotate_left 1
        · intro w hSw; (try dsimp only at hSw); go_simp; try with_reducible rfl
        simp only [Act.put, List.setIfInBounds_toArray, List.set_cons_zero, List.set_cons_succ]
        -- 8: law.go:195 slot none := Op.store 9 t59 t57
        refine wpAnyH_ready (rs := [8]) (by kernel_rfl) (by simp) ?_
        refine AllReadyH.cons (o := ⟨none, _, _, _, _, _⟩) rfl (fun K hK => ?_) AllReadyH.nil
        go_simp
        refine hK.out _ _ ((hts.cell (by omega)).trans cm) (fun hHeld' => ?_)
        clear hHeld
        have hHeld := hHeld'
        clear hHeld'
        clear hK K
        try (simp only [Act.put])
        refine wpAnyH_done (by kernel_rfl) ?_ _
        refine NoPanic.normal ?_
        clear hHeld
        go_wp2
        go_meet
        case rel => exact HE.out
      · obtain ⟨zs, hzs⟩ : ∃ zs : List Int, List.replicate 10001 0 = zs := ⟨_, rfl⟩
        have hzl : zs.length = 10001 := by rw [← hzs, List.length_replicate]
        have hmk := make_nums (P := Try.prog) w0.drew 36 5 .u8 1 Try.underlying36 infoU8 10001 (by decide) (by decide)
        have hE3 : tE 3 1 = ⟨0, [in0], [⟨0, strOfNums zs⟩], 0⟩ := by rw [← hzs]; rfl
        rw [hzs] at hmk
        have gm := heap_alloc_new w0.drew (.cells (nums .u8 zs).toArray 5)
        have hbm : Below w0.heap.size w0 (w0.drew.alloc (.cells (nums .u8 zs).toArray 5)) := (Below.drew (Below.refl _ _)).alloc (Nat.le_refl _) _
        obtain ⟨wm, hwm⟩ : ∃ wm, w0.drew.alloc (.cells (nums .u8 zs).toArray 5) = wm := ⟨_, rfl⟩
        have hmk' : (Instr.makeSlice 36 (.int .i64 10001) (.int .i64 10001)).run Try.prog w0.drew = .ok (.slice (some ⟨w0.heap.size, 0, none⟩) 10001 10001) wm := by rw [← hwm]; exact hmk
        rw [hwm] at gm hbm
        clear hmk hwm
        have hrz : Rd wm (some ⟨w0.heap.size, 0, none⟩) 10001 (nums .u8 zs) := by
          have := Rd.of_block0 gm
          rw [nums_length, hzl] at this
          exact this
        have kc := conv_rd (P := Try.prog) (src := 36) (dst := 9) (c := 10001) Try.underlying36 Try.underlying5 Try.underlying9 hrz
        have HZ := Lib.hid hzs
        have HZL := Lib.hid hzl
        have g1m := heap_below hbm g1
        have g2m := heap_below hbm g2
        have g3m := heap_below hbm g3
        have cm := blk_cell g3m (i := 2) (v := .slice (some ⟨w1.heap.size + 1, 0, none⟩) 1 1) rfl
        have c1m := blk_cell g2m (i := 1) (v := .string ⟨#[]⟩) rfl
        have f1m := blk_frozen g2m 1
        have hts := turned_setCell wm (w1.heap.size + 1) 1 (.string (strOfNums zs))
        have hok2 : (⟨0, strOfNums zs⟩ : TOut).Ok := ⟨(show (-9223372036854775808 : Int) ≤ 0 by decide), (show (0 : Int) ≤ 9223372036854775807 by decide), by show (strOfNums zs).size ≤ maxLen; rw [strOfNums_size, hzl]; decide⟩
        have hE : EdgeSt w (wm.setCell ⟨w1.heap.size + 1, 1, none⟩ (.string (strOfNums zs))) (w1.heap.size + 1 + 1) (.int .i64 6) 3 1 := by
          unfold EdgeSt
          rw [hE3]
          exact ⟨[.int .i32 0, .slice (some ⟨w1.heap.size, 0, none⟩) 1 1, .slice (some ⟨w1.heap.size + 1, 0, none⟩) 1 1, .int .u32 0], rfl, (hts.block _ (by omega)).trans g3m, ⟨some ⟨w1.heap.size, 0, none⟩, 1, 1, some ⟨w1.heap.size + 1, 0, none⟩, 1, 1, rfl, (show (-2147483648 : Int) ≤ 0 ∧ (0 : Int) ≤ 2147483647 by decide), (show (0 : Int) ≤ 0 ∧ (0 : Int) ≤ 4294967295 by decide), Nat.le_refl _, by decide, Nat.le_refl _, by decide, inK_one trivial ((hts.block _ (by omega)).trans g1m) in0_ok rfl, (outK_one (x := ⟨0, strOfNums zs⟩) (blk_set g2m 1 _) hok2).mono (fun _ _ => trivial)⟩, hts.below (below_then hBw hBw.size hbm) (by have := hb1.size; omega)⟩
        have HE := Lib.hid hE
        have hwN : IntKind.i64.wrap (10001 : Int) = 10001 := by decide
        clear hE gm hbm g1m g2m g3m hok2 hE3 hrz hzs hzl
        go_upto_region 20 with fail
        refine wp_region_noPanic ?_
        refine wp_region_held_drew (S := fun w' => w'.cell? ⟨w1.heap.size + 1 + 1, 2, none⟩ = some (.slice (some ⟨w1.heap.size + 1, 0, none⟩) 1 1)) (by kernel_rfl) a2 (fun hHeld => ?_)
        -- 0: law.go:195 slot 52 := Op.fieldAddr 35 t5 2
        refine wpAnyH_take (i := 0) (oi := ⟨some 52, _, _, _, _, _⟩) (v := ?_) rfl (by kernel_rfl) (by kernel_rfl) (by kernel_rfl) (fun _ _ _ h => h) (Or.inl ⟨by rfl, ?_⟩) (by assumption) ?_
        rotate_left 1
        · intro w hSw; (try dsimp only at hSw); go_simp; try with_reducible rfl
        simp only [Act.put, List.setIfInBounds_toArray, List.set_cons_zero, List.set_cons_succ]
        -- 1: law.go:195 slot 53 := Op.load 32 t52
        refine wpAnyH_take (i := 1) (oi := ⟨some 53, _, _, _, _, _⟩) (v := ?_) rfl (by kernel_rfl) (by kernel_rfl) (by kernel_rfl) (fun _ _ _ h => h) (Or.inl ⟨by rfl, ?_⟩) (by assumption) ?_
        rotate_left 1
        · intro w hSw; (try dsimp only at hSw); go_simp; try with_reducible rfl
        simp only [Act.put, List.setIfInBounds_toArray, List.set_cons_zero, List.set_cons_succ]
        -- 2: law.go:195 slot 54 := Op.move t1
        refine wpAnyH_take (i := 2) (oi := ⟨some 54, _, _, _, _, _⟩) (v := ?_) rfl (by kernel_rfl) (by kernel_rfl) (by kernel_rfl) (fun _ _ _ h => h) (Or.inl ⟨by rfl, ?_⟩) (by assumption) ?_
        rotate_left 1
        · intro w hSw; (try dsimp only at hSw); go_simp; try with_reducible rfl
        simp only [Act.put, List.setIfInBounds_toArray, List.set_cons_zero, List.set_cons_succ]
        -- 3: law.go:195 slot 55 := Op.binOp BinOp.add 3 (const (10000:i64)) t54 3
        refine wpAnyH_take (i := 3) (oi := ⟨some 55, _, _, _, _, _⟩) (v := ?_) rfl (by kernel_rfl) (by kernel_rfl) (by kernel_rfl) (fun _ _ _ h => h) (Or.inl ⟨by rfl, ?_⟩) (by assumption) ?_
        rotate_left 1
        · intro w hSw; (try dsimp only at hSw); go_simp; try with_reducible rfl
        simp only [Act.put, List.setIfInBounds_toArray, List.set_cons_zero, List.set_cons_succ]
        -- 4: law.go:195 slot 56 := Op.makeSlice 36 t55 t55
        refine wpAnyH_ready (rs := [4]) (by kernel_rfl) (by simp) ?_
        refine AllReadyH.cons (o := ⟨some 56, _, _, _, _, _⟩) rfl (fun K hK => ?_) AllReadyH.nil
        go_simp
        refine hK.out _ _ cm (fun hHeld' => ?_)
        clear hHeld
        have hHeld := hHeld'
        clear hHeld'
        clear hK K
        try (simp only [Act.put, List.setIfInBounds_toArray, List.set_cons_zero, List.set_cons_succ])
        -- 5: law.go:195 slot 57 := Op.convert 36 9 t56
        refine wpAnyH_ready (rs := [5]) (by kernel_rfl) (by simp) ?_
        refine AllReadyH.cons (o := ⟨some 57, _, _, _, _, _⟩) rfl (fun K hK => ?_) AllReadyH.nil
        go_simp
        refine hK.out _ _ cm (fun hHeld' => ?_)
        clear hHeld
        have hHeld := hHeld'
        clear hHeld'
        clear hK K
        try (simp only [Act.put, List.setIfInBounds_toArray, List.set_cons_zero, List.set_cons_succ])
        -- 6: law.go:195 slot 58 := Op.indexAddr 32 t53 (const (0:i64))
        refine wpAnyH_take (i := 6) (oi := ⟨some 58, _, _, _, _, _⟩) (v := ?_) rfl (by kernel_rfl) (by kernel_rfl) (by kernel_rfl) (fun _ _ _ h => h) (Or.inl ⟨by rfl, ?_⟩) (by assumption) ?_
        rotate_left 1
        · intro w hSw; (try dsimp only at hSw); go_simp; try with_reducible rfl
        simp only [Act.put, List.setIfInBounds_toArray, List.set_cons_zero, List.set_cons_succ]
        -- 7: law.go:195 slot 59 := Op.fieldAddr 63 t58 1
        refine wpAnyH_take (i := 7) (oi := ⟨some 59, _, _, _, _, _⟩) (v := ?_) rfl (by kernel_rfl) (by kernel_rfl) (by kernel_rfl) (fun _ _ _ h => h) (Or.inl ⟨by rfl, ?_⟩) (by assumption) ?_
        rotate_left 1
        · intro w hSw; (try dsimp only at hSw); go_simp; try with_reducible rfl
        simp only [Act.put, List.setIfInBounds_toArray, List.set_cons_zero, List.set_cons_succ]
        -- 8: law.go:195 slot none := Op.store 9 t59 t57
        refine wpAnyH_ready (rs := [8]) (by kernel_rfl) (by simp) ?_
        refine AllReadyH.cons (o := ⟨none, _, _, _, _, _⟩) rfl (fun K hK => ?_) AllReadyH.nil
        go_simp
        refine hK.out _ _ ((hts.cell (by omega)).trans cm) (fun hHeld' => ?_)
        clear hHeld
        have hHeld := hHeld'
        clear hHeld'
        clear hK K
        try (simp only [Act.put])
        refine wpAnyH_done (by kernel_rfl) ?_ _
        refine NoPanic.normal ?_
        clear hHeld
        go_wp2
        go_meet
        case rel => exact HE.out
  case rest =>
    obtain ⟨cs, rfl, hg2, hK, hB2⟩ := hcut
    clear g1 g2 g3 hB0 hs0' hBw a0 a1 a2 a3 f3
    obtain ⟨hee, hce⟩ := tE_err k hk4 m hm2
    have hiA := txK_sizeA hK
    have hi0 := txK_size hK
    have hok := txK_okT hK
    obtain ⟨wv, hwv⟩ : ∃ wv, wantE k m = wv := ⟨_, rfl⟩
    rw [hwv] at hee hce ⊢
    have HEE := Lib.hid hee
    have HCE := Lib.hid hce
    clear hwv hee hce hk hm
    go_wp2_with (first | ((with_reducible refine wpList_at 63 ?_); refine wpList_load_row rfl 35 (.tmp 5) rfl (w1.heap.size + 1 + 1) rfl 35 _ _ _ hg2 hU rfl hiA ?_))
    refine (enc_calls _ _ (tE k m) cs hK).mono ?_
    rintro e w3 ⟨hE1, hE2, hb3⟩
    rw [HEE.out] at hE1 hE2
    have hg3 := heap_below hb3 hg2
    have hB3 := below_then hB2 hB2.size hb3
    have hK3 := RK.K_below hK hb3
    clear hg2 hB2 hb3 hK
    by_cases h0 : wv = 0
    · obtain ⟨A, N, c, rfl, hO⟩ := hE2 h0
      have hN := own_len hO
      have hRb := Rd.of_own hO
      have hle := own_le hO
      have hpos := encF_pos (tE k m)
      obtain ⟨hbd, hmax⟩ := encErr_zero (HEE.out.trans h0)
      obtain ⟨D, rfl, hDb, hDl⟩ := own_some hO (by omega)
      have hby : Bytes (encF (tE k m)) := layF_bytes hok _
      have HN := Lib.hid hN
      have h01 := hbd.i1
      have h02 := hbd.o1
      have HBD := Lib.hid hbd
      have HMX := Lib.hid hmax
      subst h0
      clear hE1 hE2 hO hN hbd hmax hpos
      go_wp2_with (first | ((with_reducible refine wpList_at 67 ?_); refine wpList_load_rowG rfl 35 (.tmp 5) rfl (w1.heap.size + 1 + 1) rfl 35 _ _ _ hg3 hU rfl hiA ?_))
      refine (check_calls w3 _ (tE k m) cs hK3).mono ?_
      rintro e w4 ⟨rfl, hb4⟩
      rw [HCE.out]
      have hg4 := heap_below hb4 hg3
      have hB4 := below_then hB3 hB3.size hb4
      have hK4 := RK.K_below hK3 hb4
      have hRb4 := hRb.below hb4
      have hDl4 : D < w4.heap.size := Nat.lt_of_lt_of_le hDl hb4.size
      clear hg3 hB3 hb4 hK3 hRb hDl
      go_wp2_with fail
      refine (dec_calls w4 D 0 N c (encF (tE k m)) hle.1 hle.2 hRb4 hDl4 hby).mono ?_
      rintro e w5 ⟨cs9, rfl, hK9, _, hb9⟩
      have hd := dec_enc hok HBD.out HMX.out []
      rw [List.append_nil] at hd
      have hK9 := hK9 hd.1
      rw [hd.2.2.1] at hK9
      rw [hd.1, hd.2.1, HN.out, if_pos rfl]
      have hg9 := heap_below hb9 hg4
      have hB9 := below_then hB4 hB4.size hb9
      have hK5 := RK.K_below hK4 hb9
      have hi9 := txK_size hK9
      obtain ⟨B1, d1, B2, d2, hcs9, _⟩ := txK_form hK9
      subst hcs9
      clear hd hRb4 hg4 hB4 hb9 hby hK4
      go_upto_region 29 with fail
      have hba : Below w5.heap.size w5 (w5.alloc (.cells ([.int .i32 (tE k m).ver, .slice B1 (tE k m).ins.length d1, .slice B2 (tE k m).outs.length d2, .int .u32 (tE k m).lock]).toArray 35)) := (Below.refl _ _).alloc (Nat.le_refl _) _
      refine wp_gen (q := fun wi => wi.heap[w5.heap.size]? = some (.cells ([.int .i32 (tE k m).ver, .slice B1 (tE k m).ins.length d1, .slice B2 (tE k m).outs.length d2, .int .u32 (tE k m).lock]).toArray 35) ∧ wi.heap[w1.heap.size + 1 + 1]? = some (.cells cs.toArray 35) ∧ txK.K (fun b => w4.heap.size ≤ b) wi (tE k m) [.int .i32 (tE k m).ver, .slice B1 (tE k m).ins.length d1, .slice B2 (tE k m).outs.length d2, .int .u32 (tE k m).lock] ∧ txK.K (fun _ => True) wi (tE k m) cs ∧ Below w.heap.size w wi) ⟨heap_alloc_new _ _, heap_below hba hg9, RK.K_below hK9 hba, RK.K_below hK5 hba, below_then hB9 hB9.size hba⟩ (fun w6 hw => ?_)
      clear hba hg9 hK9 hB9 hK5
      obtain ⟨hx9, hg9, hK9, hKt, hB9⟩ := hw
      have r9 : w6.drew.rangeAt w5.heap.size 0 [.int .i32 (tE k m).ver, .slice B1 (tE k m).ins.length d1, .slice B2 (tE k m).outs.length d2, .int .u32 (tE k m).lock] := range_block (xs := [.int .i32 (tE k m).ver, .slice B1 (tE k m).ins.length d1, .slice B2 (tE k m).outs.length d2, .int .u32 (tE k m).lock]) hx9
      have r0 : w6.drew.rangeAt (w1.heap.size + 1 + 1) 0 cs := range_block hg9
      clear hx9 hg9
      refine wp_region_noPanic ?_
      refine wp_region_held_drew (S := fun w' => w'.rangeAt w5.heap.size 0 [.int .i32 (tE k m).ver, .slice B1 (tE k m).ins.length d1, .slice B2 (tE k m).outs.length d2, .int .u32 (tE k m).lock] ∧ w'.rangeAt (w1.heap.size + 1 + 1) 0 cs ∧ Below w6.heap.size w6 w') (by kernel_rfl) ⟨r9, r0, Below.drew (Below.refl _ _)⟩ (fun hHeld => ?_)
      -- 0: law.go:208 slot 87 := Op.move t11
      refine wpAnyH_take (i := 0) (oi := ⟨some 87, _, _, _, _, _⟩) (v := ?_) rfl (by kernel_rfl) (by kernel_rfl) (by kernel_rfl) (fun _ _ _ h => h) (Or.inl ⟨by rfl, ?_⟩) (by assumption) ?_
      rotate_left 1
      · intro w hSw; (try dsimp only at hSw); go_simp; try with_reducible rfl
      simp only [Act.put, List.setIfInBounds_toArray, List.set_cons_zero, List.set_cons_succ]
      -- 1: law.go:208 slot 88 := Op.binOp BinOp.eql 25 t87 (const (0:i64)) 25
      refine wpAnyH_take (i := 1) (oi := ⟨some 88, _, _, _, _, _⟩) (v := ?_) rfl (by kernel_rfl) (by kernel_rfl) (by kernel_rfl) (fun _ _ _ h => h) (Or.inl ⟨by rfl, ?_⟩) (by assumption) ?_
      rotate_left 1
      · intro w hSw; (try dsimp only at hSw); go_simp; try with_reducible rfl
      simp only [Act.put, List.setIfInBounds_toArray, List.set_cons_zero, List.set_cons_succ]
      -- 2: law.go:208 slot 89 := Op.move t88
      refine wpAnyH_take (i := 2) (oi := ⟨some 89, _, _, _, _, _⟩) (v := ?_) rfl (by kernel_rfl) (by kernel_rfl) (by kernel_rfl) (fun _ _ _ h => h) (Or.inl ⟨by rfl, ?_⟩) (by assumption) ?_
      rotate_left 1
      · intro w hSw; (try dsimp only at hSw); go_simp; try with_reducible rfl
      simp only [Act.put, List.setIfInBounds_toArray, List.set_cons_zero, List.set_cons_succ]
      -- 3: law.go:208 slot 90 := Op.move t10 [guarded: some (2, true)]
      refine wpAnyH_take (i := 3) (oi := ⟨some 90, _, _, _, _, _⟩) (v := ?_) rfl (by kernel_rfl) (by kernel_rfl) (by kernel_rfl) (fun _ _ _ h => h) (Or.inl ⟨by rfl, ?_⟩) (by assumption) ?_
      rotate_left 1
      · intro w hSw; (try dsimp only at hSw); go_simp; try with_reducible rfl
      simp only [Act.put, List.setIfInBounds_toArray, List.set_cons_zero, List.set_cons_succ]
      -- 4: law.go:208 slot 91 := Op.move t7 [guarded: some (2, true)]
      refine wpAnyH_take (i := 4) (oi := ⟨some 91, _, _, _, _, _⟩) (v := ?_) rfl (by kernel_rfl) (by kernel_rfl) (by kernel_rfl) (fun _ _ _ h => h) (Or.inl ⟨by rfl, ?_⟩) (by assumption) ?_
      rotate_left 1
      · intro w hSw; (try dsimp only at hSw); go_simp; try with_reducible rfl
      simp only [Act.put, List.setIfInBounds_toArray, List.set_cons_zero, List.set_cons_succ]
      -- 5: law.go:208 slot 92 := Op.call { builtin len, args := #[t91], argTypes := #[36] } [guarded: some (2, true)]
      refine wpAnyH_take (i := 5) (oi := ⟨some 92, _, _, _, _, _⟩) (v := ?_) rfl (by kernel_rfl) (by kernel_rfl) (by kernel_rfl) (fun _ _ _ h => h) (Or.inl ⟨by rfl, ?_⟩) (by assumption) ?_
      rotate_left 1
      · intro w hSw; (try dsimp only at hSw); go_simp; try with_reducible rfl
      simp only [Act.put, List.setIfInBounds_toArray, List.set_cons_zero, List.set_cons_succ]
      -- 6: law.go:208 slot 93 := Op.binOp BinOp.eql 3 t90 t92 3 [guarded: some (2, true)]
      refine wpAnyH_take (i := 6) (oi := ⟨some 93, _, _, _, _, _⟩) (v := ?_) rfl (by kernel_rfl) (by kernel_rfl) (by kernel_rfl) (fun _ _ _ h => h) (Or.inl ⟨by rfl, ?_⟩) (by assumption) ?_
      rotate_left 1
      · intro w hSw; (try dsimp only at hSw); go_simp; try with_reducible rfl
      simp only [Act.put, List.setIfInBounds_toArray, List.set_cons_zero, List.set_cons_succ]
      -- 7: law.go:208 slot 94 := Op.pick t89 t93 (const (Value.bool false))
      refine wpAnyH_take (i := 7) (oi := ⟨some 94, _, _, _, _, _⟩) (v := ?_) rfl (by kernel_rfl) (by kernel_rfl) (by kernel_rfl) (fun _ _ _ h => h) (Or.inl ⟨by rfl, ?_⟩) (by assumption) ?_
      rotate_left 1
      · intro w hSw; (try dsimp only at hSw); go_simp; try with_reducible rfl
      simp only [Act.put, List.setIfInBounds_toArray, List.set_cons_zero, List.set_cons_succ]
      -- 8: law.go:208 slot 95 := Op.move t94
      refine wpAnyH_take (i := 8) (oi := ⟨some 95, _, _, _, _, _⟩) (v := ?_) rfl (by kernel_rfl) (by kernel_rfl) (by kernel_rfl) (fun _ _ _ h => h) (Or.inl ⟨by rfl, ?_⟩) (by assumption) ?_
      rotate_left 1
      · intro w hSw; (try dsimp only at hSw); go_simp; try with_reducible rfl
      simp only [Act.put, List.setIfInBounds_toArray, List.set_cons_zero, List.set_cons_succ]
      -- 9: law.go:208 slot 96 := Op.load 35 t9 [guarded: some (8, true)]
      refine wpAnyH_take (i := 9) (oi := ⟨some 96, _, _, _, _, _⟩) rfl (by kernel_rfl) (by kernel_rfl) (by kernel_rfl) (fun _ _ _ h => h) (yieldsIf_load_mid (by rfl) _ _ rfl _ _ rfl ([.int .i32 (tE k m).ver, .slice B1 (tE k m).ins.length d1, .slice B2 (tE k m).outs.length d2, .int .u32 (tE k m).lock]) _ (fun _ h => h.1) hU rfl hi9) (by assumption) ?_
      simp only [Act.put, List.setIfInBounds_toArray, List.set_cons_zero, List.set_cons_succ]
      -- 11: law.go:208 slot 98 := Op.load 35 t5 [guarded: some (8, true)]
      refine wpAnyH_take (i := 11) (oi := ⟨some 98, _, _, _, _, _⟩) rfl (by kernel_rfl) (by kernel_rfl) (by kernel_rfl) (fun _ _ _ h => h) (yieldsIf_load_mid (by rfl) _ _ rfl _ _ rfl (cs) _ (fun _ h => h.2.1) hU rfl hi0) (by assumption) ?_
      simp only [Act.put, List.setIfInBounds_toArray, List.set_cons_zero, List.set_cons_succ]
      -- 10: law.go:208 slot 97 := Op.call { value (Operand.func 16), args := #[t96], argTypes := #[35] } [guarded: some (8, true)]
      refine wpAnyH_ready (rs := [10]) (by kernel_rfl) (by simp) ?_
      refine AllReadyH.cons (o := ⟨some 97, _, _, _, _, _⟩) rfl (fun K hK => ?_) AllReadyH.nil
      go_simp
      refine (plain_calls _ _ (tE k m) [.int .i32 (tE k m).ver, .slice B1 (tE k m).ins.length d1, .slice B2 (tE k m).outs.length d2, .int .u32 (tE k m).lock] (RK.K_below hK9 hHeld.2.2) (by omega) (by omega)).mono ?_
      rintro e w11 ⟨csx, rfl, hKx, hbq⟩
      refine hK.out _ _ ⟨range_below hbq hHeld.1, range_below hbq hHeld.2.1, below_then hHeld.2.2 hHeld.2.2.size hbq⟩ (fun hHeld' => ?_)
      clear hHeld
      have hHeld := hHeld'
      clear hHeld'
      clear hK K
      try (simp only [Act.put, List.setIfInBounds_toArray, List.set_cons_zero, List.set_cons_succ])
      -- 12: law.go:208 slot 99 := Op.call { value (Operand.func 16), args := #[t98], argTypes := #[35] } [guarded: some (8, true)]
      refine wpAnyH_ready (rs := [12]) (by kernel_rfl) (by simp) ?_
      refine AllReadyH.cons (o := ⟨some 99, _, _, _, _, _⟩) rfl (fun K hK => ?_) AllReadyH.nil
      go_simp
      refine (plain_calls _ _ (tE k m) cs (RK.K_below hKt hHeld.2.2) (by omega) (by omega)).mono ?_
      rintro e w12 ⟨csy, rfl, hKy, hbq⟩
      have hKx' := RK.K_below hKx hbq
      refine hK.out _ _ ⟨range_below hbq hHeld.1, range_below hbq hHeld.2.1, below_then hHeld.2.2 hHeld.2.2.size hbq⟩ (fun hHeld' => ?_)
      clear hHeld
      have hHeld := hHeld'
      clear hHeld'
      clear hK K
      try (simp only [Act.put, List.setIfInBounds_toArray, List.set_cons_zero, List.set_cons_succ])
      -- 13: law.go:208 slot 100 := Op.call { value (Operand.func 19), args := #[t97, t99], argTypes := #[46, 46] } [guarded: some (8, true)]
      refine wpAnyH_ready (rs := [13]) (by kernel_rfl) (by simp) ?_
      refine AllReadyH.cons (o := ⟨some 100, _, _, _, _, _⟩) rfl (fun K hK => ?_) AllReadyH.nil
      go_simp
      refine (same_calls _ _ _ (tE k m) csx csy hKx' hKy).mono ?_
      rintro e w13 ⟨rfl, hbq⟩
      refine hK.out _ _ ⟨range_below hbq hHeld.1, range_below hbq hHeld.2.1, below_then hHeld.2.2 hHeld.2.2.size hbq⟩ (fun hHeld' => ?_)
      clear hHeld
      have hHeld := hHeld'
      clear hHeld'
      clear hK K
      try (simp only [Act.put, List.setIfInBounds_toArray, List.set_cons_zero, List.set_cons_succ])
      -- 14: law.go:208 slot 101 := Op.pick t95 t100 (const (Value.bool false))
      refine wpAnyH_take (i := 14) (oi := ⟨some 101, _, _, _, _, _⟩) (v := ?_) rfl (by kernel_rfl) (by kernel_rfl) (by kernel_rfl) (fun _ _ _ h => h) (Or.inl ⟨by rfl, ?_⟩) (by assumption) ?_
      rotate_left 1
      · intro w hSw; (try dsimp only at hSw); go_simp; try with_reducible rfl
      simp only [Act.put, List.setIfInBounds_toArray, List.set_cons_zero, List.set_cons_succ]
      -- 15: law.go:208 slot 4 := Op.assign t101
      refine wpAnyH_take (i := 15) (oi := ⟨some 4, _, _, _, _, _⟩) (v := ?_) rfl (by kernel_rfl) (by kernel_rfl) (by kernel_rfl) (fun _ _ _ h => h) (Or.inl ⟨by rfl, ?_⟩) (by assumption) ?_
      rotate_left 1
      · intro w hSw; (try dsimp only at hSw); go_simp; try with_reducible rfl
      simp only [Act.put, List.setIfInBounds_toArray, List.set_cons_zero, List.set_cons_succ]
      refine wpAnyH_done (by kernel_rfl) ?_ _
      refine NoPanic.normal ?_
      have hBf := below_then hB9 hB9.size hHeld.2.2
      clear hHeld
      go_wp2
      go_ret
      exact ⟨rfl, hBf⟩
    · obtain rfl := hE1 h0
      have h0' : (wv == 0) = false := by rw [beq_eq_false_iff_ne]; exact h0
      have h0'' : (wv != 0) = true := by rw [bne_iff_ne]; exact h0
      clear hE2 h0
      go_wp2_with (first | ((with_reducible refine wpList_at 67 ?_); refine wpList_load_rowG rfl 35 (.tmp 5) rfl (w1.heap.size + 1 + 1) rfl 35 _ _ _ hg3 hU rfl hiA ?_))
      refine (check_calls w3 _ (tE k m) cs hK3).mono ?_
      rintro e w4 ⟨rfl, hb4⟩
      rw [HCE.out]
      have hB4 := below_then hB3 hB3.size hb4
      clear hg3 hB3 hb4 hK3
      go_wp2
      go_ret
      exact ⟨rfl, hB4⟩
/-! ### the row -/
open Go.ChangeShapes Go.WideShapes Go.ChangeAt
theorem own : ownKnob Try.prog.godebug = none := by kernel_rfl
theorem laidOut : laidOutB Try.prog = true := by kernel_rfl
theorem txEdges_lifted (os : Os) (started : os.Started) (H : Type) (enc : TypeId × Value → H) :
    ReturnsInHanded {} Try.checked os 8 .any (Rows.txEdgesSpec.pre6 enc Try.prog Try.f8 Rows.txEdgesRow.domain false) (Rows.txEdgesSpec.post enc Try.prog Try.f8 false true false false) := by
  refine returnsInHanded_of_change (C := Try.checked) own started (by kernel_rfl) Try.func8
    (ChangeSpec.witness6 (enc := enc) (C := Try.checked) false ⟨#[], #[.int .i64 0, .int .i64 0], []⟩ 8 (by kernel_rfl) (by kernel_rfl) (by kernel_rfl) (by kernel_rfl)) ?_
  intro W base args ds gs before hval0 hW _ _
  have hval : ∀ (j : Nat) t v, Try.f8.params[j]? = some t → args[j]? = some v → Value.okWide Try.prog W .any base t v := hval0
  have hW' := hW
  obtain ⟨p, q, hA0, _, _, _, _⟩ := hW
  have hA : DataW.TrodAll enc Try.prog W 0 (fun _ => true) true Try.f8.params.toList args.toList ds p := hA0
  rw [Try.params8] at hA hval
  obtain ⟨v0, vs0, d0, ds0, p0, q0, hargs, rfl, rfl, h0, r0⟩ := trodAll_cons hA
  obtain ⟨v1, vs1, d1, ds1, p1, q1, rfl, rfl, rfl, h1, r1⟩ := trodAll_cons r0
  obtain ⟨rfl, rfl, rfl⟩ := trodAll_nil r1
  obtain rfl : args = #[v0, v1] := by cases args; simp_all
  obtain ⟨a0, rfl, rfl, rfl, w0⟩ := open_int Try.underlying3 (hval 0 3 v0 rfl rfl) h0
  obtain ⟨a1, rfl, rfl, rfl, w1⟩ := open_int Try.underlying3 (hval 1 3 v1 rfl rfl) h1
  refine (txEdges_walk W a0 a1).mono fun e W' ⟨he, bel⟩ => ⟨_, he, ?_⟩
  exact law_post (tb := 4) laidOut (by kernel_rfl) Try.underlying4 rfl rfl (fun ds h => match ds, h with | [d0, d1], _ => rfl) hW' bel
theorem txEdges_over : Rows.txEdgesRow.holds Try.pinned (OpenSpec.ofChange Rows.txEdgesSpec) :=
  OpenClaim.holds_of_wide 8 Try.f8 rfl rfl rfl rfl rfl rfl rfl ⟨rfl, rfl, rfl, rfl, rfl⟩ rfl rfl rfl rfl rfl (by kernel_rfl) Try.func8 (by kernel_rfl)
    (of_decide_eq_true (by kernel_rfl)) (by unfold Func.isWrapper; first | (rw [if_pos (by decide +kernel)]; kernel_rfl) | (rw [if_neg (by decide +kernel)]; exact ⟨rfl, rfl⟩))
    (fun os started H enc _ => txEdges_lifted os started H enc)
theorem txEdges_holds : Rows.TxEdgesSaid := txEdges_over
#print axioms txEdges_holds
end Go.Proofs.Ytjlkakggmfmfiaa
