/- BlockReads: whatever bytes, the law's call returns true and changes nothing: the block that they are, written again just so, or that they are none. -/
import Derived.Test.YtjlkakggmfmfiaaDoorBlkEnc
import Derived.Test.YtjlkakggmfmfiaaDoorBlkDec
import Derived.Test.YtjlkakggmfmfiaaDoorHead08
set_option maxRecDepth 100000
set_option linter.unusedVariables false
namespace Go.Proofs.YtjlkakggmfmfiaaDoor
open Go Go.RowKit
theorem Turned.refl (w : World) (g : Nat) : Turned w g w := ⟨rfl, rfl, rfl, rfl, fun _ _ => rfl⟩
theorem Turned.trans {w w1 w2 : World} {g : Nat} (h : Turned w g w1) (k : Turned w1 g w2) : Turned w g w2 :=
  ⟨k.os.trans h.os, k.tape.trans h.tape, k.output.trans h.output, k.size.trans h.size, fun q hq => (k.block q hq).trans (h.block q hq)⟩
theorem wpList_load_midG {P : Program} {ops : Array Oper} {rest : List Oper} {op : Oper} {a : Act} {w : World} {Q : Exit → Act → World → Prop} (hw : Region.wanted op (yielded ops a.tmps) = true) (ty : TypeId) (x : Operand) (ho : op.op = .load ty x)
    (b o : Nat) (hx : a.eval x = .pointer (some ⟨b, o, none⟩)) (cs : List Value) (d : TypeDesc) (hc : w.rangeAt b o cs)
    (hu : P.underlying ty = some d) (hd : d.isRow = true) (hi : (P.info? ty).map (·.size) = some cs.length)
    (h : wpList P ops Q rest (a.put op.dst (.agg cs.toArray)) w) : wpList P ops Q (op :: rest) a w :=
  wpList_want hw fun _ hK => wp_load_mid ty x ho b o hx cs d hc hu hd hi (hK _ _ h)
theorem own_home {w : World} {base n c : Nat} {e : TypeId} {A : Option Addr} {k : IntKind} {xs : List Int} (h : w.ownsRow base e 1 (.slice A n c) n (nums k xs)) (hb : base < w.heap.size) : ∃ g, base ≤ g ∧ g < w.heap.size ∧ (0 < n → A = some ⟨g, 0, none⟩ ∧ ∃ cur, w.heap[g]? = some (.cells cur e) ∧ ∀ i, i < n → ∃ x, cur[i]? = some (.int k x)) := by
  rcases h.2 with ⟨hv, h0⟩ | ⟨g, cap, cur, hv, hbg, hg, h1, h2, h3, h4⟩
  · exact ⟨base, Nat.le_refl _, hb, fun hn => by omega⟩
  · refine ⟨g, hbg, heap_lt hg, fun hn => ?_⟩
    injection hv with e1 e2 e3
    refine ⟨e1, cur, hg, fun i hi => ?_⟩
    have hl := h.1
    rw [nums_length, Nat.mul_one] at hl
    have hx := nums_get k xs i (by omega)
    rw [← h4, Nat.mul_one] at hx
    rw [List.getElem?_take_of_lt hi] at hx
    exact ⟨_, by rw [← Array.getElem?_toList]; exact hx⟩
theorem ints_set {cur : Array Value} {n : Nat} {k : IntKind} (h : ∀ i, i < n → ∃ x, cur[i]? = some (.int k x)) (j : Nat) (y : Int) : ∀ i, i < n → ∃ x, (cur.setIfInBounds j (.int k y))[i]? = some (.int k x) := by
  intro i hi
  obtain ⟨x, hx⟩ := h i hi
  by_cases hij : j = i
  · subst hij
    refine ⟨y, ?_⟩
    have := (Array.getElem?_eq_some_iff.1 hx).1
    simp [this]
  · exact ⟨x, by rw [Array.getElem?_setIfInBounds_ne hij]; exact hx⟩
theorem wpList_binG {P : Program} {ops : Array Oper} {rest : List Oper} {o : Oper} {a : Act} {w : World} {Q : Exit → Act → World → Prop} (hw : Region.wanted o (yielded ops a.tmps) = true) (b : BinOp) (t : TypeId) (x y : Operand) (u : TypeId) (ho : o.op = .binOp b t x y u) (xs ys : Array Value) (v : Value) (hx : a.eval x = .agg xs) (hy : a.eval y = .agg ys)
    (hm : P.eqGuardType P.depth t = false) (hrun : ∀ W, (binOp b t (.agg xs) (.agg ys)).run P W = .ok v W) (h : wpList P ops Q rest (a.put o.dst v) w) : wpList P ops Q (o :: rest) a w :=
  wpList_want hw fun _ hK => by
    unfold Oper.wp execOp
    simp only [ho, Sem.run_bind, Sem.run_pure, Result.andThen_ok, hx, hy, run_eqGuard_agg _ b t x y xs ys hm, hrun]
    exact hK _ _ h
theorem bool_and3 (a b c : Bool) (ha : a = true) (hb : b = true) (hc : c = true) : (a && b && c) = true := by rw [ha, hb, hc]; rfl
set_option maxHeartbeats 8000000 in
theorem blockReads_walk (w : World) (hT : Tabs w) (A : Option Addr) (n c : Nat) (bs : List Int) (hnc : n ≤ c) (hcm : c ≤ maxLen) (hC : (RK.int .u8).C (· < w.heap.size) w A n bs) :
    Calls Tryd.prog 18 #[.slice A n c] w fun e w' => e = .returned (.bool true) ∧ Below w.heap.size w w' := by
  have hUB := Tryd.underlying64
  have hUH := Tryd.underlying53
  have hbs := hC.bytes
  have hR := hC.rd_int
  have hcm' := hcm
  unfold maxLen at hcm'
  have hnI : (n : Int) ≤ 9223372036854775807 := by omega
  have HL : Hid (bs.length = n) := Lib.hid hC.len
  go_enter Tryd.func18, Tryd.ntmps18
  go_wp2_with fail
  refine (head08_calls w hT).mono ?_
  rintro e w1 ⟨rfl, hb1⟩
  have hR1 := hR.below hb1
  clear hC
  by_cases e1 : 5000 < n
  · have e1' : (5000 : Int) < (n : Int) := by omega
    go_wp2
    go_ret
    exact ⟨rfl, hb1⟩
  · have e1' : ¬ (5000 : Int) < (n : Int) := by omega
    have hoe := own_empty (w := w1) (base := w1.heap.size) 5 1 (Nat.le_refl _)
    have hRa := hR1.alloc (.cells #[] 5)
    have hle1 : w1.heap.size ≤ (w1.alloc (.cells #[] 5)).heap.size := by simp
    go_upto_region 6 with (first
      | ((with_reducible refine wpList_at 16 ?_); refine wpList_appN rfl (.tmp 14) (.tmp 15) 22 rfl w1.heap.size 5 _ 1 Tryd.underlying22 infoU8 rfl (.slice (some ⟨w1.heap.size, 0, none⟩) 0 0) 0 [] rfl hoe A n c (nums .u8 bs) rfl hRa (nums_one _ _) n (nums .u8 bs) (Nat.zero_add _) (List.nil_append _) (by unfold maxLen; omega) (by omega) hle1 ?_
         intro A3 c3 w2 hO hG hx))
    have hB2 : Below w.heap.size w w2 := (hb1.alloc hb1.size _).grown hG (by simp; have := hb1.size; omega) (fun q e => by have := own_base hoe q e; have := hb1.size; omega)
    have hs2 : w1.heap.size < w2.heap.size := by have := hG.size; simp at this; omega
    have hsw := hb1.size
    have hleO := own_le hO
    have hRo := Rd.of_own hO
    have hR2 := hR.below hB2
    clear hoe hRa hG hx hR1 hb1 hle1
    obtain ⟨g, hg1, hg2, hgm⟩ := own_home hO hs2
    go_wp2_with fail
    refine (decB_calls w2 A3 n c3 bs hleO.1 hleO.2 (by omega) hRo hbs).mono ?_
    rintro e w3 ⟨hN3, hS3, hb3⟩
    have hB3 := below_then hB2 hB2.size hb3
    have hR3 := hR2.below hb3
    have hg3 : 0 < n → A3 = some ⟨g, 0, none⟩ ∧ ∃ cur, w3.heap[g]? = some (.cells cur 5) ∧ ∀ i, i < n → ∃ x, cur[i]? = some (.int .u8 x) := fun h => by
      obtain ⟨q1, cur, q2, q3⟩ := hgm h
      exact ⟨q1, cur, heap_below hb3 q2, q3⟩
    have hs3 := hb3.size
    clear hO hRo hgm hB2 hR2 hleO
    cases hdb : decBk bs with
    | none =>
      obtain rfl := hN3 hdb
      clear hN3 hS3 hdb
      go_upto_region 7 with (first
        | ((with_reducible refine wpList_atS 4 ?_); refine wpList_store_any rfl 64 (.tmp 4) (.tmp 20) rfl w3.heap.size (blkCells hd0 none 0 0).toArray rfl rfl 64 (blkCells hd0 none 0 0).toArray (heap_alloc_new _ _) (info_blkA hd0_ok none 0 0) rfl (blkCells_all hd0 none 0 0) ?_; intro w4 h4 ht4))
      have hb4 : Below w3.heap.size w3 w4 := ht4.below ((Below.refl _ _).alloc (Nat.le_refl _) _) (Nat.le_refl _)
      have hB4 := below_then hB3 hB3.size hb4
      have hlt4 := heap_lt h4
      have hg4 : 0 < n → A3 = some ⟨g, 0, none⟩ ∧ ∃ cur, w4.heap[g]? = some (.cells cur 5) ∧ ∀ i, i < n → ∃ x, cur[i]? = some (.int .u8 x) := fun h => by
        obtain ⟨q1, cur, q2, q3⟩ := hg3 h
        exact ⟨q1, cur, heap_below hb4 q2, q3⟩
      clear ht4 hb4 hg3 hB3 hR3
      go_wp2
      go_loopw [24] (fun v24 wq => ∃ (j : Nat), j ≤ n ∧ v24 = .int .i64 j ∧ Turned w4 g wq ∧ (0 < n → A3 = some ⟨g, 0, none⟩ ∧ ∃ cur, wq.heap[g]? = some (.cells cur 5) ∧ ∀ i, i < n → ∃ x, cur[i]? = some (.int .u8 x))) (fun v _ => n - (intOf v).toNat)
      case atStart => exact ⟨0, by omega, rfl, Turned.refl _ _, hg4⟩
      case round =>
        clear hg4
        obtain ⟨j, hj, rfl, htq, hgq⟩ := hrel
        by_cases hlt : j < n
        · have hlt' : (j : Int) < (n : Int) := by omega
          have hjj : (0 : Int) ≤ (j : Int) := by omega
          obtain ⟨rfl, cur, hgc, hcur⟩ := hgq (by omega)
          obtain ⟨x0, hx0⟩ := hcur j hlt
          have hc0 := blk_cell hgc hx0
          have hf0 := blk_frozen hgc j
          go_wp2
          go_roundw
          case rel => exact ⟨j + 1, by omega, by go_num, htq.trans (turned_setCell wr g j _), fun _ => ⟨(by first | rfl | trivial), _, blk_set hgc j _, ints_set hcur j _⟩⟩
          case measure => simp [intOf]; omega
        · have hlt' : ¬ (j : Int) < (n : Int) := by omega
          have h4q := htq.keep h4 (by omega)
          have hBq := htq.below hB4 (by omega)
          have tS : wr.cell? ⟨w3.heap.size, 68, none⟩ = some (.slice none 0 0) := blk_cell h4q (by rw [List.getElem?_toArray]; exact blkCells_at hd0_ok none 0 0)
          have rH : wr.rangeAt w3.heap.size 0 hd0.cells := range_pre (range_block (xs := blkCells hd0 none 0 0) h4q)
          have iH : (Tryd.prog.info? 53).map (·.size) = some hd0.cells.length := by rw [Hd.length hd0_ok]; kernel_rfl
          clear htq hgq h4 hB4 h4q
          go_wp2_with (first | ((with_reducible refine wpList_at 46 ?_); refine wpList_load_midG rfl 53 (.tmp 45) rfl w3.heap.size 0 rfl hd0.cells _ rH hUH rfl iH ?_) | ((with_reducible refine wpList_at 48 ?_); refine wpList_binG rfl .eql 53 (.tmp 46) (.tmp 47) 53 rfl hd0.cells.toArray hd0.cells.toArray (.bool true) rfl (by kernel_rfl) (by kernel_rfl) (fun W => by rw [run_eql_struct, eq_hd hd0 hd0_ok]; rfl) ?_))
          go_ret
          exact ⟨rfl, hBq⟩
    | some x =>
      obtain ⟨cs, rfl, hK3⟩ := hS3 x hdb
      clear hN3 hS3
      have HRD := Lib.hid (decBk_read hbs (by rw [HL.out]; omega) hdb)
      clear hdb
      have hK3' := hK3
      obtain ⟨X, nx, cx, rfl, hok, hx1, hx2, hCx⟩ := hK3
      go_upto_region 7 with (first
        | ((with_reducible refine wpList_atS 4 ?_); refine wpList_store_any rfl 64 (.tmp 4) (.tmp 20) rfl w3.heap.size (blkCells x.head X nx cx).toArray rfl rfl 64 (blkCells hd0 none 0 0).toArray (heap_alloc_new _ _) (info_blkA hok X nx cx) (by rw [List.size_toArray, List.size_toArray, blkCells_length hok, blkCells_length hd0_ok]) (blkCells_all x.head X nx cx) ?_; intro w4 h4 ht4))
      have hb4 : Below w3.heap.size w3 w4 := ht4.below ((Below.refl _ _).alloc (Nat.le_refl _) _) (Nat.le_refl _)
      have hB4 := below_then hB3 hB3.size hb4
      have hlt4 := heap_lt h4
      have hg4 : 0 < n → A3 = some ⟨g, 0, none⟩ ∧ ∃ cur, w4.heap[g]? = some (.cells cur 5) ∧ ∀ i, i < n → ∃ x, cur[i]? = some (.int .u8 x) := fun h => by
        obtain ⟨q1, cur, q2, q3⟩ := hg3 h
        exact ⟨q1, cur, heap_below hb4 q2, q3⟩
      have hK4 := RK.C.below hCx hb4
      clear ht4 hb4 hg3 hB3 hR3 hK3' hCx
      go_wp2
      go_loopw [24] (fun v24 wq => ∃ (j : Nat), j ≤ n ∧ v24 = .int .i64 j ∧ Turned w4 g wq ∧ (0 < n → A3 = some ⟨g, 0, none⟩ ∧ ∃ cur, wq.heap[g]? = some (.cells cur 5) ∧ ∀ i, i < n → ∃ x, cur[i]? = some (.int .u8 x))) (fun v _ => n - (intOf v).toNat)
      case atStart => exact ⟨0, by omega, rfl, Turned.refl _ _, hg4⟩
      case round =>
        clear hg4
        obtain ⟨j, hj, rfl, htq, hgq⟩ := hrel
        by_cases hlt : j < n
        · have hlt' : (j : Int) < (n : Int) := by omega
          have hjj : (0 : Int) ≤ (j : Int) := by omega
          obtain ⟨rfl, cur, hgc, hcur⟩ := hgq (by omega)
          obtain ⟨x0, hx0⟩ := hcur j hlt
          have hc0 := blk_cell hgc hx0
          have hf0 := blk_frozen hgc j
          go_wp2
          go_roundw
          case rel => exact ⟨j + 1, by omega, by go_num, htq.trans (turned_setCell wr g j _), fun _ => ⟨(by first | rfl | trivial), _, blk_set hgc j _, ints_set hcur j _⟩⟩
          case measure => simp [intOf]; omega
        · have hlt' : ¬ (j : Int) < (n : Int) := by omega
          have h4q := htq.keep h4 (by omega)
          have hBq := htq.below hB4 (by omega)
          have hKq : txK.C (fun b => w2.heap.size ≤ b) wr X nx x.txs := hK4.move (fun q hq _ => htq.block q (by omega))
          have hRq := hR.below hBq
          clear htq hgq h4 hK4 hB4
          go_wp2_with (first | ((with_reducible refine wpList_at 51 ?_); refine wpList_load_row rfl 64 (.tmp 4) rfl w3.heap.size rfl 64 _ _ _ h4q hUB rfl (info_blkA hok X nx cx) ?_))
          refine (encB_calls wr _ x.head hok X nx cx x.txs hx1 hx2 hKq).mono ?_
          rintro e w5 ⟨_, he0, hb5⟩
          obtain ⟨A5, N5, c5, rfl, hO5⟩ := he0 HRD.out.2.2.2.1
          rw [HRD.out.2.2.2.2] at hO5
          have hR5 := Rd.of_own hO5
          have hRb := hRq.below hb5
          have hB5 := below_then hBq hBq.size hb5
          have k1 := conv_rd (P := Tryd.prog) (src := 22) (dst := 9) (c := c5) Tryd.underlying22 Tryd.underlying5 Tryd.underlying9 hR5
          have k2 := conv_rd (P := Tryd.prog) (src := 22) (dst := 9) (c := c) Tryd.underlying22 Tryd.underlying5 Tryd.underlying9 hRb
          clear he0 hO5 hb5 hRq hBq hR5 hRb h4q hKq
          go_wp2
          go_ret
          exact ⟨rfl, hB5⟩
end Go.Proofs.YtjlkakggmfmfiaaDoor
