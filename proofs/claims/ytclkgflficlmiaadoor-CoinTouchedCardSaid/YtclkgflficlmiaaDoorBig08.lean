/- tailracelaw08.big: it answers; where it says no, a block is small. -/
import Derived.Test.YtclkgflficlmiaaDoorBlkLaw
set_option maxRecDepth 100000
set_option linter.unusedVariables false
namespace Go.Proofs.YtclkgflficlmiaaDoor
open Go Go.RowKit
structure SmallI (x : TIn) : Prop where
  sc : x.script.size ≤ 300
  wl : x.wit.length ≤ 5
  wit : ∀ s ∈ x.wit, s.size ≤ 300
structure SmallT (t : TTx) : Prop where
  il : t.ins.length ≤ 10
  ol : t.outs.length ≤ 10
  ins : ∀ x ∈ t.ins, SmallI x
  outs : ∀ o ∈ t.outs, o.script.size ≤ 300
structure SmallB (ts : List TTx) : Prop where
  len : ts.length ≤ 12
  all : ∀ t ∈ ts, SmallT t
theorem all_take_succ {α : Type} {p : α → Prop} {xs : List α} {k : Nat} {x : α} (h : ∀ y ∈ xs.take k, p y) (hx : xs[k]? = some x) (hp : p x) : ∀ y ∈ xs.take (k + 1), p y := by
  intro y hy
  rw [List.take_add_one, hx] at hy
  rcases List.mem_append.1 hy with hy | hy
  · exact h y hy
  · obtain rfl : y = x := by simpa using hy
    exact hp
theorem all_take_full {α : Type} {p : α → Prop} {xs : List α} {k : Nat} (h : ∀ y ∈ xs.take k, p y) (hk : xs.length ≤ k) : ∀ y ∈ xs, p y := by
  rwa [List.take_of_length_le hk] at h
def Big08Post (w : World) (x : TBlk) (e : Ending) (w' : World) : Prop := ∃ b, e = .returned (.bool b) ∧ (b = false → SmallB x.txs) ∧ Below w.heap.size w w'
set_option maxHeartbeats 8000000 in
theorem big08_calls (w : World) (S : Nat → Prop) (x : TBlk) (cs : List Value) (hK : blkK.K S w x cs) : Calls Tryd.prog 25 #[.agg cs.toArray] w (Big08Post w x) := by
  obtain ⟨A, n, c, rfl, hok, hnc, hcm, hC⟩ := hK
  have hU := Tryd.underlying54
  have hU2 := Tryd.underlying67
  have hU3 := Tryd.underlying62
  have hcm' := hcm
  unfold maxLen at hcm'
  have hnI : (n : Int) ≤ 9223372036854775807 := by omega
  have HL := Lib.hid hC.len
  have g0 := heap_alloc_new w (.cells (blkCells x.head A n c).toArray 49)
  have hb0 : Below w.heap.size w (w.alloc (.cells (blkCells x.head A n c).toArray 49)) := (Below.refl _ _).alloc (Nat.le_refl _) _
  have tS0 : (w.alloc (.cells (blkCells x.head A n c).toArray 49)).cell? ⟨w.heap.size, 68, none⟩ = some (.slice A n c) := blk_cell g0 (by rw [List.getElem?_toArray]; exact blkCells_at hok A n c)
  go_enter Tryd.func25, Tryd.ntmps25
  go_upto_region 1 with fail
  refine wp_gen (q := fun wi => Below w.heap.size w wi ∧ wi.cell? ⟨w.heap.size, 68, none⟩ = some (.slice A n c)) ⟨hb0, tS0⟩ (fun w0 hw => ?_)
  clear hb0 g0 tS0
  obtain ⟨hb0, tS⟩ := hw
  have hC0 := RK.C.below hC hb0
  clear hC
  by_cases e1 : 12 < n
  · have e1' : (12 : Int) < (n : Int) := by omega
    go_wp2
    go_ret
    exact ⟨true, rfl, (fun h => by cases h), hb0⟩
  · have e1' : ¬ (12 : Int) < (n : Int) := by omega
    go_wp2
    go_loopw [18] (fun v18 wr => ∃ (k : Nat), k ≤ n ∧ v18 = .int .i64 k ∧ Hid (∀ t ∈ x.txs.take k, SmallT t) ∧ Below w0.heap.size w0 wr) (fun v _ => n - (intOf v).toNat)
    case atStart => exact ⟨0, by omega, rfl, Lib.hid (fun t h => by simp at h), Below.refl _ _⟩
    case round =>
      obtain ⟨k, hk, rfl, HT, hB⟩ := hrel
      have hbw := below_then hb0 hb0.size hB
      by_cases hlt : k < n
      · have hlt' : (k : Int) < (n : Int) := by omega
        have hkk : (0 : Int) ≤ (k : Int) := by omega
        obtain ⟨b, o, cs, t, hA, hx, hKx, hcx⟩ := (RK.C.below hC0 hB).get k hlt
        subst hA
        obtain ⟨X1, xc1, X2, xc2, rfl, x1, x2, x3, x4, hI, hO⟩ := txK_form hKx
        obtain ⟨n1, hn1⟩ : ∃ n1, t.ins.length = n1 := ⟨_, rfl⟩
        obtain ⟨n2, hn2⟩ : ∃ n2, t.outs.length = n2 := ⟨_, rfl⟩
        rw [hn1] at x1 hI hcx
        rw [hn2] at x3 hO hcx
        unfold maxLen at x2 x4
        have hrx : wr.rangeAt b (o + k * 4) [.int .i32 t.ver, .slice X1 n1 xc1, .slice X2 n2 xc2, .int .u32 t.lock] := hcx
        have hi4 := info_tx4 (.int .i32 t.ver) (.slice X1 n1 xc1) (.slice X2 n2 xc2) (.int .u32 t.lock)
        have hn1I : (n1 : Int) ≤ 9223372036854775807 := by omega
        have hn2I : (n2 : Int) ≤ 9223372036854775807 := by omega
        have HX := Lib.hid hx
        have HN1 := Lib.hid hn1
        have HN2 := Lib.hid hn2
        clear hx hcx hKx hn1 hn2
        go_upto_region 6 with (first
          | ((with_reducible refine wpList_at 21 ?_); refine wpList_load_mid rfl 54 (.tmp 20) rfl b (o + k * 4) rfl [.int .i32 t.ver, .slice X1 n1 xc1, .slice X2 n2 xc2, .int .u32 t.lock] _ hrx hU rfl hi4 ?_))
        refine wp_gen (q := fun wi => wi.heap[wr.heap.size]? = some (.cells [.int .i32 t.ver, .slice X1 n1 xc1, .slice X2 n2 xc2, .int .u32 t.lock].toArray 54) ∧ Below wr.heap.size wr wi) ⟨heap_alloc_new _ _, (Below.refl _ _).alloc (Nat.le_refl _) _⟩ (fun w3 hw => ?_)
        obtain ⟨g3, hb3⟩ := hw
        have t1 : w3.cell? ⟨wr.heap.size, 1, none⟩ = some (.slice X1 n1 xc1) := blk_cell g3 rfl
        have t2 : w3.cell? ⟨wr.heap.size, 2, none⟩ = some (.slice X2 n2 xc2) := blk_cell g3 rfl
        have hI3 := RK.C.below hI hb3
        have hO3 := RK.C.below hO hb3
        have hB3 := below_then hB hB.size hb3
        have hbw3 := below_then hbw hbw.size hb3
        clear g3 hI hO hrx hB hbw
        by_cases f1 : 10 < n1
        · have f1' : decide ((10 : Int) < (n1 : Int)) = true := decide_eq_true (by omega)
          go_wp2
          go_ret
          exact ⟨true, rfl, (fun h => by cases h), hbw3⟩
        · have f1' : decide ((10 : Int) < (n1 : Int)) = false := decide_eq_false (by omega)
          by_cases f2 : 10 < n2
          · have f2' : decide ((10 : Int) < (n2 : Int)) = true := decide_eq_true (by omega)
            go_wp2
            go_ret
            exact ⟨true, rfl, (fun h => by cases h), hbw3⟩
          · have f2' : decide ((10 : Int) < (n2 : Int)) = false := decide_eq_false (by omega)
            go_wp2
            go_loopw [35] (fun v35 wq => ∃ (j : Nat), j ≤ n1 ∧ v35 = .int .i64 j ∧ Hid (∀ y ∈ t.ins.take j, SmallI y) ∧ Below w3.heap.size w3 wq) (fun v _ => n1 - (intOf v).toNat)
            case atStart => exact ⟨0, by omega, rfl, Lib.hid (fun y h => by simp at h), Below.refl _ _⟩
            case round =>
              obtain ⟨j, hj, rfl, HI, hBq⟩ := hrel
              have hbq := below_then hbw3 hbw3.size hBq
              by_cases hjl : j < n1
              · have hjl' : (j : Int) < (n1 : Int) := by omega
                have hjj : (0 : Int) ≤ (j : Int) := by omega
                obtain ⟨b2, o2, y, Aw, nw, cw, hA1, hy, hrg0, hyk, hw1, hw2, hwc⟩ := in_at hI3 j hjl
                have hrg := range_below hBq hrg0
                have hidl := hyk.idl
                have i1 := info_in y hidl (.slice Aw nw cw)
                have hsc := hyk.sc
                have HWL := Lib.hid hwc.len
                unfold maxLen at hsc hw2
                have HY := Lib.hid hy
                subst hA1
                clear hy hrg0
                go_upto_region 11 with (first
                  | ((with_reducible refine wpList_at 38 ?_); refine wpList_load_mid rfl 67 (.tmp 37) rfl b2 (o2 + j * 36) rfl (inCells y (.slice Aw nw cw)) _ hrg hU2 rfl i1 ?_)
                  | ((with_reducible refine wpList_atS 6 ?_); refine wpList_store_any rfl 67 (.tmp 6) (.tmp 38) rfl wr.heap.size (inCells y (.slice Aw nw cw)).toArray rfl rfl 67 (inCells in0 (.slice none 0 0)).toArray (heap_alloc_new _ _) (info_inA y hidl _) (in_sizes y hidl _) (in_one y _ rfl) ?_; intro w5 g5 ht5))
                have hb5 : Below wr.heap.size wr w5 := ht5.below ((Below.refl wr.heap.size wr).alloc (Nat.le_refl _) _) (Nat.le_refl _)
                have hB5 := below_then hBq hBq.size hb5
                have hbq5 := below_then hbq hbq.size hb5
                have s1 : w5.cell? ⟨wr.heap.size, 33, none⟩ = some (.string y.script) := blk_cell g5 (by rw [List.getElem?_toArray]; exact inCells_at hidl _ 1)
                have s2 : w5.cell? ⟨wr.heap.size, 35, none⟩ = some (.slice Aw nw cw) := blk_cell g5 (by rw [List.getElem?_toArray]; exact inCells_at hidl _ 3)
                have hnwI : (nw : Int) ≤ 9223372036854775807 := by omega
                have hwc5 := RK.C.below (RK.C.below hwc hBq) hb5
                clear ht5 hb5 hrg g5 hBq hbq hwc
                by_cases p1 : 300 < y.script.size
                · have p1' : decide ((300 : Int) < (y.script.size : Int)) = true := decide_eq_true (by omega)
                  go_wp2
                  go_ret
                  exact ⟨true, rfl, (fun h => by cases h), hbq5⟩
                · have p1' : decide ((300 : Int) < (y.script.size : Int)) = false := decide_eq_false (by omega)
                  by_cases p2 : 5 < nw
                  · have p2' : decide ((5 : Int) < (nw : Int)) = true := decide_eq_true (by omega)
                    go_wp2
                    go_ret
                    exact ⟨true, rfl, (fun h => by cases h), hbq5⟩
                  · have p2' : decide ((5 : Int) < (nw : Int)) = false := decide_eq_false (by omega)
                    go_wp2
                    go_loopw [52] (fun v52 wz => ∃ (l : Nat), l ≤ nw ∧ v52 = .int .i64 l ∧ Hid (∀ s ∈ y.wit.take l, s.size ≤ 300) ∧ wz = w5) (fun v _ => nw - (intOf v).toNat)
                    case atStart => exact ⟨0, by omega, rfl, Lib.hid (fun s h => by simp at h), rfl⟩
                    case round =>
                      obtain ⟨l, hl, rfl, HW, rfl⟩ := hrel
                      by_cases hll : l < nw
                      · have hll' : (l : Int) < (nw : Int) := by omega
                        have hl0 : (0 : Int) ≤ (l : Int) := by omega
                        obtain ⟨bs, os, s, hAw, hxs, hcs, hss⟩ := str_at hwc5 l hll
                        subst hAw
                        have HXS := Lib.hid hxs
                        clear hxs
                        unfold maxLen at hss
                        go_upto_region 16 with fail
                        by_cases hz : 300 < s.size
                        · have hz' : (300 : Int) < (s.size : Int) := by omega
                          go_wp2
                          go_ret
                          exact ⟨true, rfl, (fun h => by cases h), hbq5⟩
                        · have hz' : ¬ (300 : Int) < (s.size : Int) := by omega
                          have HW2 : Hid (∀ s ∈ y.wit.take (l + 1), s.size ≤ 300) := Lib.hid (all_take_succ HW.out HXS.out (by omega))
                          go_wp2
                          go_roundw
                          case rel => exact ⟨l + 1, by omega, by go_num, HW2, trivial⟩
                          case measure => simp [intOf]; omega
                      · have hll' : ¬ (l : Int) < (nw : Int) := by omega
                        have HI2 : Hid (∀ y ∈ t.ins.take (j + 1), SmallI y) := Lib.hid (all_take_succ HI.out HY.out ⟨by omega, by rw [HWL.out]; omega, all_take_full HW.out (by rw [HWL.out]; omega)⟩)
                        go_wp2
                        go_roundw
                        case rel => exact ⟨j + 1, by omega, by go_num, HI2, hB5⟩
                        case measure => simp [intOf]; omega
              · have hjl' : ¬ (j : Int) < (n1 : Int) := by omega
                have HI2 : Hid (∀ y ∈ t.ins, SmallI y) := Lib.hid (all_take_full HI.out (by rw [HN1.out]; omega))
                have t2q := cell_below hBq t2
                have hOq := RK.C.below hO3 hBq
                have hBB := below_then hB3 hB3.size hBq
                clear t1 t2 hI3 hO3 HI
                go_wp2
                go_loopw [64] (fun v64 wz => ∃ (l : Nat), l ≤ n2 ∧ v64 = .int .i64 l ∧ Hid (∀ s ∈ t.outs.take l, s.script.size ≤ 300) ∧ Below wr.heap.size wr wz) (fun v _ => n2 - (intOf v).toNat)
                case atStart => exact ⟨0, by omega, rfl, Lib.hid (fun s h => by simp at h), Below.refl _ _⟩
                case round =>
                  obtain ⟨l, hl, rfl, HO, hBz⟩ := hrel
                  have hbz := below_then hbq hbq.size hBz
                  have hBBz := below_then hBB hBB.size hBz
                  by_cases hll : l < n2
                  · have hll' : (l : Int) < (n2 : Int) := by omega
                    have hl0 : (0 : Int) ≤ (l : Int) := by omega
                    obtain ⟨bo, oo, y, hAo, hyo, hc0, hc1, hoo⟩ := out_at hOq l hll
                    subst hAo
                    have hc0' := cell_below hBz hc0
                    have hc1' := cell_below hBz hc1
                    have HYO := Lib.hid hyo
                    have hsc := hoo.sc
                    unfold maxLen at hsc
                    clear hyo hc0 hc1
                    go_upto_region 23 with fail
                    by_cases hz : 300 < y.script.size
                    · have hz' : (300 : Int) < (y.script.size : Int) := by omega
                      go_wp2
                      go_ret
                      exact ⟨true, rfl, (fun h => by cases h), hbz.alloc hbz.size _⟩
                    · have hz' : ¬ (300 : Int) < (y.script.size : Int) := by omega
                      have HO2 : Hid (∀ s ∈ t.outs.take (l + 1), s.script.size ≤ 300) := Lib.hid (all_take_succ HO.out HYO.out (by omega))
                      go_wp2
                      go_roundw
                      case rel => exact ⟨l + 1, by omega, by go_num, HO2, hBz.alloc hBz.size _⟩
                      case measure => simp [intOf]; omega
                  · have hll' : ¬ (l : Int) < (n2 : Int) := by omega
                    have HT2 : Hid (∀ t ∈ x.txs.take (k + 1), SmallT t) := Lib.hid (all_take_succ HT.out HX.out ⟨by rw [HN1.out]; omega, by rw [HN2.out]; omega, HI2.out, all_take_full HO.out (by rw [HN2.out]; omega)⟩)
                    go_wp2
                    go_roundw
                    case rel => exact ⟨k + 1, by omega, by go_num, HT2, hBBz⟩
                    case measure => simp [intOf]; omega
      · have hlt' : ¬ (k : Int) < (n : Int) := by omega
        have HS : Hid (SmallB x.txs) := Lib.hid ⟨by rw [HL.out]; omega, all_take_full HT.out (by rw [HL.out]; omega)⟩
        go_wp2
        go_ret
        exact ⟨false, rfl, (fun _ => HS.out), hbw⟩
end Go.Proofs.YtclkgflficlmiaaDoor
