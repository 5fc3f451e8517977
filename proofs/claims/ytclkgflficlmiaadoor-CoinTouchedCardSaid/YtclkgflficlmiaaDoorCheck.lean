/- tx.Tx.Check. -/
import Derived.Test.YtclkgflficlmiaaDoorLayIns
import Derived.Test.YtclkgflficlmiaaDoorTxLaw
set_option maxRecDepth 100000
set_option linter.unusedVariables false
namespace Go.Proofs.YtclkgflficlmiaaDoor
open Go Go.RowKit
theorem insErr_drop (ins : List TIn) (k : Nat) (x : TIn) (h : ins[k]? = some x) : insErr (ins.drop k) = if inErr x = 0 then insErr (ins.drop (k + 1)) else inErr x := by
  obtain ⟨hk, rfl⟩ := List.getElem?_eq_some_iff.1 h
  rw [List.drop_eq_getElem_cons hk, insErr]
theorem witErr_drop (ss : List ByteArray) (k : Nat) (x : ByteArray) (h : ss[k]? = some x) : witErr (ss.drop k) = (decide (10000 < x.size) || witErr (ss.drop (k + 1))) := by
  obtain ⟨hk, rfl⟩ := List.getElem?_eq_some_iff.1 h
  rw [List.drop_eq_getElem_cons hk, witErr, List.any_cons]
  rfl
theorem outsErr_drop (os : List TOut) (k : Nat) (x : TOut) (h : os[k]? = some x) : outsErr (os.drop k) = (decide (10000 < x.script.size) || outsErr (os.drop (k + 1))) := by
  obtain ⟨hk, rfl⟩ := List.getElem?_eq_some_iff.1 h
  rw [List.drop_eq_getElem_cons hk, outsErr, List.any_cons]
  rfl
set_option maxHeartbeats 4000000 in
theorem check_core (w : World) (S : Nat → Prop) (t : TTx) (A1 : Option Addr) (n1 k1 : Nat) (A2 : Option Addr) (n2 k2 : Nat) (h1 : n1 ≤ k1) (h2 : k1 ≤ maxLen) (h3 : n2 ≤ k2) (h4 : k2 ≤ maxLen)
    (hI : inK.C S w A1 n1 t.ins) (hO : outK.C S w A2 n2 t.outs) :
    Calls Tryd.prog 28 #[.agg #[.int .i32 t.ver, .slice A1 n1 k1, .slice A2 n2 k2, .int .u32 t.lock]] w fun e w' => e = .returned (.int .i64 (checkF t)) ∧ Below w.heap.size w w' := by
  have hil := hI.len
  have hol := hO.len
  have hU2 := Tryd.underlying67
  unfold maxLen at h2 h4
  have hn1 : (n1 : Int) ≤ 9223372036854775807 := by omega
  have hn2 : (n2 : Int) ≤ 9223372036854775807 := by omega
  have hb0 : Below w.heap.size w (w.alloc (.cells #[.int .i32 t.ver, .slice A1 n1 k1, .slice A2 n2 k2, .int .u32 t.lock] 54)) := (Below.refl _ _).alloc (Nat.le_refl _) _
  have hg0 := heap_alloc_new w (.cells #[.int .i32 t.ver, .slice A1 n1 k1, .slice A2 n2 k2, .int .u32 t.lock] 54)
  have HIL := Lib.hid hil
  have HOL := Lib.hid hol
  by_cases e1 : n1 = 0
  · have e1' : ((n1 : Int) == 0) = true := by rw [e1]; rfl
    have hf : checkF t = 1 := by unfold checkF; rw [if_pos (.inl (hil.trans e1))]
    rw [hf]
    clear hil hol e1 hf
    go_enter Tryd.func28, Tryd.ntmps28
    go_wp2
    go_ret
    exact ⟨rfl, hb0⟩
  · have e1' : ((n1 : Int) == 0) = false := by rw [beq_eq_false_iff_ne]; omega
    by_cases e2 : n2 = 0
    · have e2' : ((n2 : Int) == 0) = true := by rw [e2]; rfl
      have hf : checkF t = 1 := by unfold checkF; rw [if_pos (.inr (hol.trans e2))]
      rw [hf]
      clear hil hol e2 hf
      go_enter Tryd.func28, Tryd.ntmps28
      go_wp2
      go_ret
      exact ⟨rfl, hb0⟩
    · have e2' : ((n2 : Int) == 0) = false := by rw [beq_eq_false_iff_ne]; omega
      have hne : ¬ (t.ins.length = 0 ∨ t.outs.length = 0) := by omega
      by_cases e3 : 1024 < n1
      · have e3' : (1024 : Int) < (n1 : Int) := by omega
        have hf : checkF t = 3 := by unfold checkF; rw [if_neg hne, if_pos (.inl (by omega))]
        rw [hf]
        clear hil hol hf hne e1 e2
        go_enter Tryd.func28, Tryd.ntmps28
        go_wp2
        go_ret
        exact ⟨rfl, hb0⟩
      · have e3' : ¬ (1024 : Int) < (n1 : Int) := by omega
        by_cases e4 : 1024 < n2
        · have e4' : (1024 : Int) < (n2 : Int) := by omega
          have hf : checkF t = 3 := by unfold checkF; rw [if_neg hne, if_pos (.inr (by omega))]
          rw [hf]
          clear hil hol hf hne e1 e2
          go_enter Tryd.func28, Tryd.ntmps28
          go_wp2
          go_ret
          exact ⟨rfl, hb0⟩
        · have e4' : ¬ (1024 : Int) < (n2 : Int) := by omega
          have HF : Hid (checkF t = if insErr t.ins ≠ 0 then insErr t.ins else if outsErr t.outs then 6 else 0) := Lib.hid (by unfold checkF; rw [if_neg hne, if_neg (by omega)])
          clear hil hol hne e1 e2
          go_enter Tryd.func28, Tryd.ntmps28
          go_upto_region 1 with fail
          refine wp_gen (q := fun wi => Below w.heap.size w wi ∧ wi.heap[w.heap.size]? = some (.cells #[.int .i32 t.ver, .slice A1 n1 k1, .slice A2 n2 k2, .int .u32 t.lock] 54)) ⟨hb0, hg0⟩ (fun w0 hw => ?_)
          clear hb0 hg0
          obtain ⟨hb0, hg0⟩ := hw
          have t1 : w0.cell? ⟨w.heap.size, 1, none⟩ = some (.slice A1 n1 k1) := blk_cell hg0 rfl
          have t2 : w0.cell? ⟨w.heap.size, 2, none⟩ = some (.slice A2 n2 k2) := blk_cell hg0 rfl
          have hI0 := RK.C.below hI hb0
          have hO0 := RK.C.below hO hb0
          clear hg0 hI hO
          go_wp2
          go_loopw [32] (fun v32 wr => ∃ k : Nat, k ≤ n1 ∧ v32 = .int .i64 k ∧ Hid (insErr t.ins = insErr (t.ins.drop k)) ∧ Below w0.heap.size w0 wr) (fun v _ => n1 - (intOf v).toNat)
          case atStart => exact ⟨0, by omega, rfl, Lib.hid rfl, Below.refl _ _⟩
          case round =>
            obtain ⟨k, hk, rfl, HR, hB⟩ := hrel
            have hbw := below_then hb0 hb0.size hB
            by_cases hlt : k < n1
            · have hlt' : (k : Int) < (n1 : Int) := by omega
              have hkk : (0 : Int) ≤ (k : Int) := by omega
              obtain ⟨b, o, x, Aw, nw, cw, hA1, hx, hrg0, hok, hw1, hw2, hwc⟩ := in_at hI0 k hlt
              have hrg := range_below hB hrg0
              have hdr := insErr_drop t.ins k x hx
              have hidl := hok.idl
              have i1 := info_in x hidl (.slice Aw nw cw)
              have hnw := hwc.len
              have hsr := hbw.size
              have hsc := hok.sc
              unfold maxLen at hsc hw2
              have HD := Lib.hid hdr
              have HX := Lib.hid hx
              have HNW := Lib.hid hnw
              subst hA1
              clear hdr hx hnw hrg0
              go_upto_region 8 with (first | (refine wpList_load_mid rfl 67 (.tmp 34) rfl b (o + k * 36) rfl (inCells x (.slice Aw nw cw)) _ hrg hU2 rfl i1 ?_) | (refine wpList_store_any rfl 67 (.tmp 4) (.tmp 35) rfl wr.heap.size (inCells x (.slice Aw nw cw)).toArray rfl rfl 67 (inCells in0 (.slice none 0 0)).toArray (heap_alloc_new _ _) (info_inA x hidl _) (in_sizes x hidl _) (in_one x _ rfl) ?_; intro w2 g2 ht2))
              have hb2 : Below wr.heap.size wr w2 := ht2.below ((Below.refl wr.heap.size wr).alloc (Nat.le_refl _) _) (Nat.le_refl _)
              have hB2 := below_then hB hB.size hb2
              have hbw2 := below_then hbw hbw.size hb2
              have s1 : w2.cell? ⟨wr.heap.size, 33, none⟩ = some (.string x.script) := blk_cell g2 (by rw [List.getElem?_toArray]; exact inCells_at hidl _ 1)
              have s2 : w2.cell? ⟨wr.heap.size, 35, none⟩ = some (.slice Aw nw cw) := blk_cell g2 (by rw [List.getElem?_toArray]; exact inCells_at hidl _ 3)
              have hnwI : (nw : Int) ≤ 9223372036854775807 := by omega
              clear ht2 hb2 hrg g2 hB
              by_cases f1 : 100 < nw
              · have f1' : (100 : Int) < (nw : Int) := by omega
                have hf : checkF t = 3 := by
                  have h3 : inErr x = 3 := by unfold inErr; rw [if_pos (by have := HNW.out; omega)]
                  have h4 : insErr t.ins = 3 := by rw [HR.out, HD.out, h3]; rfl
                  rw [HF.out, h4]; rfl
                have HF3 := Lib.hid hf
                clear hf
                go_wp2
                go_ret
                rw [HF3.out]
                exact ⟨rfl, hbw2⟩
              · have f1' : ¬ (100 : Int) < (nw : Int) := by omega
                by_cases f2 : 10000 < x.script.size
                · have f2' : (10000 : Int) < (x.script.size : Int) := by omega
                  have hf : checkF t = 6 := by
                    have h3 : inErr x = 6 := by unfold inErr; rw [if_neg (by have := HNW.out; omega), if_pos f2]
                    have h4 : insErr t.ins = 6 := by rw [HR.out, HD.out, h3]; rfl
                    rw [HF.out, h4]; rfl
                  have HF3 := Lib.hid hf
                  clear hf
                  go_wp2
                  go_ret
                  rw [HF3.out]
                  exact ⟨rfl, hbw2⟩
                · have f2' : ¬ (10000 : Int) < (x.script.size : Int) := by omega
                  have hie : inErr x = if witErr x.wit then 6 else 0 := by unfold inErr; rw [if_neg (by have := HNW.out; omega), if_neg f2]
                  have HIE := Lib.hid hie
                  clear hie
                  go_wp2
                  go_loopw [6, 47] (fun v6 v47 wz => ∃ j : Nat, j ≤ nw ∧ v47 = .int .i64 j ∧ Hid (witErr x.wit = witErr (x.wit.drop j)) ∧ w2 = wz) (fun _ v _ => nw - (intOf v).toNat)
                  case atStart => exact ⟨0, by omega, rfl, Lib.hid rfl, rfl⟩
                  case round =>
                    obtain ⟨j, hj, rfl, HW, rfl⟩ := hrel
                    by_cases hjn : j < nw
                    · have hjn' : (j : Int) < (nw : Int) := by omega
                      have hj0 : (0 : Int) ≤ (j : Int) := by omega
                      obtain ⟨b6, o6, y, hAw, hy, hc6, hys⟩ := str_at (RK.C.below hwc hB2) j hjn
                      have hdw := witErr_drop x.wit j y hy
                      have HDW := Lib.hid hdw
                      have HY := Lib.hid hy
                      unfold maxLen at hys
                      subst hAw
                      clear hdw hy
                      by_cases g1 : 10000 < y.size
                      · have g1' : (10000 : Int) < (y.size : Int) := by omega
                        have hf : checkF t = 6 := by
                          have h3 : witErr x.wit = true := by rw [HW.out, HDW.out, decide_eq_true g1]; rfl
                          have h4 : insErr t.ins = 6 := by rw [HR.out, HD.out, HIE.out, h3]; rfl
                          rw [HF.out, h4]; rfl
                        have HF3 := Lib.hid hf
                        clear hf
                        go_wp2
                        go_ret
                        rw [HF3.out]
                        exact ⟨rfl, hbw2⟩
                      · have g1' : ¬ (10000 : Int) < (y.size : Int) := by omega
                        go_wp2
                        go_roundw
                        case rel => exact ⟨j + 1, by omega, by go_num, Lib.hid (by rw [HW.out, HDW.out, decide_eq_false g1]; rfl), trivial⟩
                        case measure => simp [intOf]; omega
                    · have hjn' : ¬ (j : Int) < (nw : Int) := by omega
                      have h0 : inErr x = 0 := by
                        rw [HIE.out, HW.out, List.drop_eq_nil_of_le (by have := HNW.out; omega)]
                        rfl
                      have HR2 : Hid (insErr t.ins = insErr (t.ins.drop (k + 1))) := Lib.hid (by rw [HR.out, HD.out, h0, if_pos rfl])
                      clear h0
                      go_wp2
                      go_roundw
                      case rel => exact ⟨k + 1, by omega, by go_num, HR2, hB2⟩
                      case measure => simp [intOf]; omega
            · have hlt' : ¬ (k : Int) < (n1 : Int) := by omega
              have h0 : insErr t.ins = 0 := by rw [HR.out, List.drop_eq_nil_of_le (by have := HIL.out; omega)]; rfl
              have HF2 : Hid (checkF t = if outsErr t.outs then 6 else 0) := Lib.hid (by rw [HF.out, h0]; rfl)
              have t2r := cell_below hB t2
              clear h0 HR hlt
              go_wp2
              go_loopw [59] (fun v59 wz => ∃ j : Nat, j ≤ n2 ∧ v59 = .int .i64 j ∧ Hid (outsErr t.outs = outsErr (t.outs.drop j)) ∧ Below w0.heap.size w0 wz) (fun v _ => n2 - (intOf v).toNat)
              case atStart => exact ⟨0, by omega, rfl, Lib.hid rfl, hB⟩
              case round =>
                clear hB hbw t2r
                obtain ⟨j, hj, rfl, HW, hB⟩ := hrel
                have hbw := below_then hb0 hb0.size hB
                by_cases hjn : j < n2
                · have hjn' : (j : Int) < (n2 : Int) := by omega
                  have hj0 : (0 : Int) ≤ (j : Int) := by omega
                  obtain ⟨b6, o6, y, hA2, hy, hc1, hc2, hys⟩ := out_at (RK.C.below hO0 hB) j hjn
                  have hdw := outsErr_drop t.outs j y hy
                  have HDW := Lib.hid hdw
                  have HY := Lib.hid hy
                  have hsc := hys.sc
                  unfold maxLen at hsc
                  have hB2 : Below w0.heap.size w0 (wr.alloc (.cells #[.int .i64 y.coins, .string y.script] 62)) := hB.alloc hB.size _
                  have hbw2 : Below w.heap.size w (wr.alloc (.cells #[.int .i64 y.coins, .string y.script] 62)) := hbw.alloc hbw.size _
                  subst hA2
                  clear hdw hy
                  by_cases g1 : 10000 < y.script.size
                  · have g1' : (10000 : Int) < (y.script.size : Int) := by omega
                    have hf : checkF t = 6 := by
                      have h3 : outsErr t.outs = true := by rw [HW.out, HDW.out, decide_eq_true g1]; rfl
                      rw [HF2.out, h3]; rfl
                    have HF3 := Lib.hid hf
                    clear hf
                    go_wp2
                    go_ret
                    rw [HF3.out]
                    exact ⟨rfl, hbw2⟩
                  · have g1' : ¬ (10000 : Int) < (y.script.size : Int) := by omega
                    go_wp2
                    go_roundw
                    case rel => exact ⟨j + 1, by omega, by go_num, Lib.hid (by rw [HW.out, HDW.out, decide_eq_false g1]; rfl), hB2⟩
                    case measure => simp [intOf]; omega
                · have hjn' : ¬ (j : Int) < (n2 : Int) := by omega
                  have hf : checkF t = 0 := by
                    rw [HF2.out, HW.out, List.drop_eq_nil_of_le (by have := HOL.out; omega)]
                    rfl
                  have HF3 := Lib.hid hf
                  clear hf
                  go_wp2
                  go_ret
                  rw [HF3.out]
                  exact ⟨rfl, hbw⟩
theorem check_calls (w : World) (S : Nat → Prop) (t : TTx) (cs : List Value) (hK : txK.K S w t cs) :
    Calls Tryd.prog 28 #[.agg cs.toArray] w fun e w' => e = .returned (.int .i64 (checkF t)) ∧ Below w.heap.size w w' := by
  obtain ⟨A1, n1, k1, A2, n2, k2, rfl, ⟨hv0, hv1⟩, ⟨hl0, hl1⟩, h1, h2, h3, h4, hI, hO⟩ := hK
  exact check_core w S t A1 n1 k1 A2 n2 k2 h1 h2 h3 h4 hI hO
end Go.Proofs.YtclkgflficlmiaaDoor
