/- block.Root: the root of digests. -/
import Derived.Test.YtjlkakggmfmfiaaDoorUp
set_option maxRecDepth 100000
set_option linter.unusedVariables false
namespace Go.Proofs.YtjlkakggmfmfiaaDoor
open Go Go.RowKit
def sliceLen : Value → Nat
  | .slice _ n _ => n
  | _ => 0
set_option maxHeartbeats 1000000 in
theorem blkroot_calls (w : World) (hT : Tabs w) (A : Option Addr) (n c : Nat) (ids : List (List Int)) (hnc : n ≤ c) (hn : n ≤ 1000000) (hC : HC w A n ids) :
    Calls Tryd.prog 28 #[.slice A n c] w fun e w' => e = .returned (.agg (nums .u8 (rootF ids)).toArray) ∧ Below w.heap.size w w' := by
  have hl := hC.len
  have hR := (rootF_dig _ ids (Nat.le_refl _) (HC.digs hC)).1
  have u2 := Tryd.underlying25
  have h0 := heap_alloc_new w (.cells (nums .u8 zeros32).toArray 25)
  have hb0 : Below w.heap.size w (w.alloc (.cells (nums .u8 zeros32).toArray 25)) := (Below.refl _ _).alloc (Nat.le_refl _) _
  by_cases hn0 : n = 0
  · subst hn0
    obtain rfl := List.eq_nil_of_length_eq_zero hl
    rw [rootF_nil]
    clear hl hR hC
    go_enter Tryd.func28, Tryd.ntmps28
    go_wp2_with (first | (refine wpList_store_any rfl 25 (.tmp 2) (.tmp 7) rfl w.heap.size (nums .u8 zeros32).toArray rfl rfl 25 (nums .u8 zeros32).toArray h0 (info_h _ rfl) rfl (nums_all _ _) ?_; intro w4 h4 ht4))
    refine bodyPost_ret (results_cell_row rfl _ _ w.heap.size 25 (nums .u8 zeros32).toArray (0, 0) _ rfl h4 Tryd.underlying25 rfl (info_h _ rfl)) rfl ⟨rfl, ht4.below hb0 (Nat.le_refl _)⟩
  · have hn1 : ((n : Int) == 0) = false := by rw [beq_eq_false_iff_ne]; omega
    have hCa := RK.C.below hC hb0
    clear hl
    go_enter Tryd.func28, Tryd.ntmps28
    go_wp2
    go_loopw [3] (fun v3 wr => ∃ (A1 : Option Addr) (m c1 : Nat) (L : List (List Int)), v3 = .slice A1 m c1 ∧ m ≤ c1 ∧ 1 ≤ m ∧ m ≤ n ∧ HC wr A1 m L ∧ Hid (rootF L = rootF ids) ∧ Below w.heap.size w wr ∧ wr.heap[w.heap.size]? = some (.cells (nums .u8 zeros32).toArray 25)) (fun v _ => sliceLen v)
    case atStart => exact ⟨A, n, c, ids, rfl, hnc, by omega, by omega, hCa, Lib.hid rfl, hb0, h0⟩
    case round =>
      clear hCa hb0 h0 hC
      obtain ⟨A1, m, c1, L, rfl, hmc, hm1, hmn, hL, HR, hB, hg⟩ := hrel
      have hTr := hT.below hB
      by_cases hlt : 1 < m
      · have hlt' : (1 : Int) < (m : Int) := by omega
        go_wp2_with fail
        refine (up_calls _ hTr A1 m c1 L hmc (by omega) hL).mono ?_
        rintro e w2 ⟨A2, c2, rfl, hO2, hb2⟩
        have hB2 := below_then hB hB.size hb2
        have hg2 := heap_below hb2 hg
        have hC2 := HOwn.C hO2
        have hle := (RK.Own.le_ hO2).1
        have HR2 : Hid (rootF (upF L) = rootF ids) := Lib.hid (by rw [rootF_up L (by rw [hL.len]; exact hlt)]; exact HR.out)
        clear hO2 hb2 hB hg HR hL
        go_wp2
        go_roundw
        case rel => exact ⟨A2, _, c2, upF L, rfl, hle, by omega, by omega, hC2, HR2, hB2, hg2⟩
        case measure => show (m + 1) / 2 < m; omega
      · have hlt' : ¬ (1 : Int) < (m : Int) := by omega
        obtain rfl : m = 1 := by omega
        obtain ⟨b, o, rfl, hbw, hr⟩ := HC.addr hL (by omega)
        have rx := hr 0 (by omega)
        rw [Nat.zero_mul, Nat.add_zero, ← rootF_one L hL.len, HR.out] at rx
        have hi1 : (Tryd.prog.info? 25).map (·.size) = some (nums .u8 (rootF ids)).length := ilen_hash _ hR
        clear hr hL HR
        go_wp2_with (first | (refine wpList_load_mid rfl 25 (.tmp 15) rfl b o rfl (nums .u8 (rootF ids)) _ rx u2 rfl hi1 ?_) | (refine wpList_store_any rfl 25 (.tmp 2) (.tmp 16) rfl w.heap.size (nums .u8 (rootF ids)).toArray rfl rfl 25 (nums .u8 zeros32).toArray hg (info_h _ hR) (size_h _ hR) (nums_all _ _) ?_; intro w4 h4 ht4))
        refine bodyPost_ret (results_cell_row rfl _ _ w.heap.size 25 (nums .u8 (rootF ids)).toArray (0, 0) _ rfl h4 Tryd.underlying25 rfl (info_h _ hR)) rfl ⟨rfl, ht4.below hB (Nat.le_refl _)⟩
end Go.Proofs.YtjlkakggmfmfiaaDoor
