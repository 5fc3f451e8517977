/- tailracelaw07.big: it answers. -/
import Derived.Test.YtjlkakggmfmfiaaHead07
set_option maxRecDepth 100000
set_option linter.unusedVariables false
namespace Go.Proofs.Ytjlkakggmfmfiaa
open Go Go.RowKit
def BigPost (w : World) (t : TTx) (e : Ending) (w' : World) : Prop := ∃ b, e = .returned (.bool b) ∧ (b = false → t.ins.length ≤ 1030 ∧ t.outs.length ≤ 1030) ∧ Below w.heap.size w w'
set_option maxHeartbeats 4000000 in
theorem big_calls (w : World) (S : Nat → Prop) (t : TTx) (cs : List Value) (hK : txK.K S w t cs) : Calls Try.prog 13 #[.agg cs.toArray] w (BigPost w t) := by
  obtain ⟨A1, n1, k1, A2, n2, k2, rfl, _, _, h1, h2, h3, h4, hI, hO⟩ := hK
  have HBN0 : Hid (t.ins.length = n1 ∧ t.outs.length = n2) := Lib.hid ⟨hI.len, hO.len⟩
  have hU2 := Try.underlying61
  have hU3 := Try.underlying63
  unfold maxLen at h2 h4
  have hn1 : (n1 : Int) ≤ 9223372036854775807 := by omega
  have hn2 : (n2 : Int) ≤ 9223372036854775807 := by omega
  have hb0 : Below w.heap.size w (w.alloc (.cells #[.int .i32 t.ver, .slice A1 n1 k1, .slice A2 n2 k2, .int .u32 t.lock] 35)) := (Below.refl _ _).alloc (Nat.le_refl _) _
  have hg0 := heap_alloc_new w (.cells #[.int .i32 t.ver, .slice A1 n1 k1, .slice A2 n2 k2, .int .u32 t.lock] 35)
  by_cases e3 : 1030 < n1
  · have e3' : (1030 : Int) < (n1 : Int) := by omega
    go_enter Try.func13, Try.ntmps13
    go_wp2
    go_ret
    exact ⟨true, rfl, (fun h => by cases h), hb0⟩
  · have e3' : ¬ (1030 : Int) < (n1 : Int) := by omega
    by_cases e4 : 1030 < n2
    · have e4' : (1030 : Int) < (n2 : Int) := by omega
      go_enter Try.func13, Try.ntmps13
      go_wp2
      go_ret
      exact ⟨true, rfl, (fun h => by cases h), hb0⟩
    · have e4' : ¬ (1030 : Int) < (n2 : Int) := by omega
      have HBN : Hid (t.ins.length ≤ 1030 ∧ t.outs.length ≤ 1030) := Lib.hid (by rw [HBN0.out.1, HBN0.out.2]; omega)
      go_enter Try.func13, Try.ntmps13
      go_upto_region 1 with fail
      refine wp_gen (q := fun wi => Below w.heap.size w wi ∧ wi.heap[w.heap.size]? = some (.cells #[.int .i32 t.ver, .slice A1 n1 k1, .slice A2 n2 k2, .int .u32 t.lock] 35)) ⟨hb0, hg0⟩ (fun w0 hw => ?_)
      clear hb0 hg0
      obtain ⟨hb0, hg0⟩ := hw
      have t1 : w0.cell? ⟨w.heap.size, 1, none⟩ = some (.slice A1 n1 k1) := blk_cell hg0 rfl
      have t2 : w0.cell? ⟨w.heap.size, 2, none⟩ = some (.slice A2 n2 k2) := blk_cell hg0 rfl
      have hI0 := RK.C.below hI hb0
      have hO0 := RK.C.below hO hb0
      clear hg0 hI hO
      go_wp2
      go_loopw [3, 23] (fun v3 v23 wr => ∃ (k : Nat) (z : Int), k ≤ n1 ∧ v23 = .int .i64 k ∧ v3 = .int .i64 z ∧ Below w0.heap.size w0 wr) (fun _ v _ => n1 - (intOf v).toNat)
      case atStart => exact ⟨0, 0, by omega, rfl, rfl, Below.refl _ _⟩
      case round =>
        obtain ⟨k, z, hk, rfl, rfl, hB⟩ := hrel
        have hbw := below_then hb0 hb0.size hB
        by_cases hlt : k < n1
        · have hlt' : (k : Int) < (n1 : Int) := by omega
          have hkk : (0 : Int) ≤ (k : Int) := by omega
          obtain ⟨b, o, x, Aw, nw, cw, hA1, hx, hrg0, hok, hw1, hw2, hwc⟩ := in_at hI0 k hlt
          have hrg := range_below hB hrg0
          have hidl := hok.idl
          have i1 := info_in x hidl (.slice Aw nw cw)
          have hsr := hbw.size
          have hsc := hok.sc
          unfold maxLen at hsc hw2
          have HX := Lib.hid hx
          subst hA1
          clear hx hrg0
          go_upto_region 7 with (first | (refine wpList_load_mid rfl 61 (.tmp 25) rfl b (o + k * 36) rfl (inCells x (.slice Aw nw cw)) _ hrg hU2 rfl i1 ?_) | (refine wpList_store_any rfl 61 (.tmp 5) (.tmp 26) rfl wr.heap.size (inCells x (.slice Aw nw cw)).toArray rfl rfl 61 (inCells in0 (.slice none 0 0)).toArray (heap_alloc_new _ _) (info_inA x hidl _) (in_sizes x hidl _) (in_one x _ rfl) ?_; intro w2 g2 ht2))
          have hb2 : Below wr.heap.size wr w2 := ht2.below ((Below.refl wr.heap.size wr).alloc (Nat.le_refl _) _) (Nat.le_refl _)
          have hB2 := below_then hB hB.size hb2
          have hbw2 := below_then hbw hbw.size hb2
          have s1 : w2.cell? ⟨wr.heap.size, 33, none⟩ = some (.string x.script) := blk_cell g2 (by rw [List.getElem?_toArray]; exact inCells_at hidl _ 1)
          have s2 : w2.cell? ⟨wr.heap.size, 35, none⟩ = some (.slice Aw nw cw) := blk_cell g2 (by rw [List.getElem?_toArray]; exact inCells_at hidl _ 3)
          have hnwI : (nw : Int) ≤ 9223372036854775807 := by omega
          have hwc2 := RK.C.below (RK.C.below hwc hB) hb2
          clear ht2 hb2 hrg g2 hB
          by_cases f1 : 110 < nw
          · have f1' : (110 : Int) < (nw : Int) := by omega
            go_wp2
            go_ret
            exact ⟨true, rfl, (fun h => by cases h), hbw2⟩
          · have f1' : ¬ (110 : Int) < (nw : Int) := by omega
            go_wp2
            go_loopw [3, 40] (fun v3 v40 wq => ∃ (j : Nat) (y : Int), j ≤ nw ∧ v40 = .int .i64 j ∧ v3 = .int .i64 y ∧ wq = w2) (fun _ v _ => nw - (intOf v).toNat)
            case atStart => exact ⟨0, _, by omega, rfl, rfl, rfl⟩
            case round =>
              obtain ⟨j, y, hj, rfl, rfl, rfl⟩ := hrel
              by_cases hjl : j < nw
              · have hjl' : (j : Int) < (nw : Int) := by omega
                have hjj : (0 : Int) ≤ (j : Int) := by omega
                obtain ⟨bs, os, s, hAw, hxs, hcs, hss⟩ := str_at hwc2 j hjl
                subst hAw
                have HXS := Lib.hid hxs
                clear hxs
                unfold maxLen at hss
                go_upto_region 14 with fail
                by_cases hz : 100000 < wrap64 (y + ↑s.size)
                · go_wp2
                  go_ret
                  exact ⟨true, rfl, (fun h => by cases h), hbw2⟩
                · go_wp2
                  go_roundw
                  case rel => exact ⟨j + 1, _, by omega, by go_num, rfl, trivial⟩
                  case measure => simp [intOf]; omega
              · have hjl' : ¬ (j : Int) < (nw : Int) := by omega
                go_wp2
                go_roundw
                case rel => exact ⟨k + 1, y, by omega, by go_num, rfl, hB2⟩
                case measure => simp [intOf]; omega
        · have hlt' : ¬ (k : Int) < (n1 : Int) := by omega
          have t2r := cell_below hB t2
          have hOr := RK.C.below hO0 hB
          go_wp2
          go_loopw [3, 55] (fun v3 v55 wq => ∃ (j : Nat) (y : Int), j ≤ n2 ∧ v55 = .int .i64 j ∧ v3 = .int .i64 y ∧ Below wr.heap.size wr wq) (fun _ v _ => n2 - (intOf v).toNat)
          case atStart => exact ⟨0, _, by omega, rfl, rfl, Below.refl _ _⟩
          case round =>
            obtain ⟨j, y, hj, rfl, rfl, hBq⟩ := hrel
            have hbq := below_then hbw hbw.size hBq
            by_cases hjl : j < n2
            · have hjl' : (j : Int) < (n2 : Int) := by omega
              have hjj : (0 : Int) ≤ (j : Int) := by omega
              obtain ⟨bo, oo, x, hAo, hxo, hc0, hc1, hoo⟩ := out_at hOr j hjl
              subst hAo
              have hc0' := cell_below hBq hc0
              have hc1' := cell_below hBq hc1
              have HXO := Lib.hid hxo
              have hsc := hoo.sc
              unfold maxLen at hsc
              clear hxo hc0 hc1
              go_upto_region 22 with fail
              by_cases hz : 100000 < wrap64 (y + wrap64 (9 + ↑x.script.size))
              · go_wp2
                go_ret
                exact ⟨true, rfl, (fun h => by cases h), hbq.alloc hbq.size _⟩
              · go_wp2
                go_roundw
                case rel => exact ⟨j + 1, _, by omega, by go_num, rfl, hBq.alloc hBq.size _⟩
                case measure => simp [intOf]; omega
            · have hjl' : ¬ (j : Int) < (n2 : Int) := by omega
              go_wp2
              go_ret
              exact ⟨false, rfl, (fun _ => HBN.out), hbq⟩
end Go.Proofs.Ytjlkakggmfmfiaa
