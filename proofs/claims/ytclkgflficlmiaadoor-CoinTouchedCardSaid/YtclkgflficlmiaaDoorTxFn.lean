/- tx.Tx: witnessed, Encode, Id. -/
import Derived.Test.YtclkgflficlmiaaDoorLay
import Derived.Test.YtclkgflficlmiaaDoorCheck
set_option maxRecDepth 100000
set_option linter.unusedVariables false
namespace Go.Proofs.YtclkgflficlmiaaDoor
open Go Go.RowKit
theorem ins_ids {S : Nat → Prop} {w : World} {A : Option Addr} {n : Nat} {ins : List TIn} (h : inK.C S w A n ins) : ∀ x ∈ ins, x.Ok := by
  intro x hx
  obtain ⟨i, hi, rfl⟩ := List.mem_iff_getElem.1 hx
  obtain ⟨b, o, y, Aw, nw, cw, _, hy, _, hok, _⟩ := in_at h i (by rw [← h.len]; exact hi)
  rw [List.getElem?_eq_getElem hi] at hy
  exact Option.some.inj hy ▸ hok
theorem tx_ids {S : Nat → Prop} {w : World} {t : TTx} {cs : List Value} (h : txK.K S w t cs) : ∀ x ∈ t.ins, x.Ok := by
  obtain ⟨A1, n1, k1, A2, n2, k2, rfl, _, _, _, _, _, _, hI, _⟩ := h
  exact ins_ids hI
theorem hasWit_drop (ins : List TIn) (k : Nat) (x : TIn) (h : ins[k]? = some x) : ((ins.drop k).any fun i => decide (0 < i.wit.length)) = (decide (0 < x.wit.length) || (ins.drop (k + 1)).any fun i => decide (0 < i.wit.length)) := by
  obtain ⟨hk, rfl⟩ := List.getElem?_eq_some_iff.1 h
  rw [List.drop_eq_getElem_cons hk, List.any_cons]
set_option maxHeartbeats 2000000 in
theorem wit_calls (w : World) (S : Nat → Prop) (t : TTx) (cs : List Value) (hK : txK.K S w t cs) :
    Calls Tryd.prog 58 #[.agg cs.toArray] w fun e w' => e = .returned (.bool t.hasWit) ∧ Below w.heap.size w w' := by
  obtain ⟨A1, n1, k1, A2, n2, k2, rfl, _, _, h1, h2, _, _, hI, hO⟩ := hK
  have hil := hI.len
  have hU2 := Tryd.underlying67
  unfold maxLen at h2
  have hb0 : Below w.heap.size w (w.alloc (.cells #[.int .i32 t.ver, .slice A1 n1 k1, .slice A2 n2 k2, .int .u32 t.lock] 54)) := (Below.refl _ _).alloc (Nat.le_refl _) _
  have HIL := Lib.hid hil
  have HF : Hid (t.hasWit = t.ins.any fun i => decide (0 < i.wit.length)) := Lib.hid rfl
  clear hil hO
  go_enter Tryd.func58, Tryd.ntmps58
  go_wp2
  go_loopw [8] (fun v8 wr => ∃ k : Nat, k ≤ n1 ∧ v8 = .int .i64 k ∧ Hid (t.hasWit = (t.ins.drop k).any fun i => decide (0 < i.wit.length)) ∧ Below w.heap.size w wr) (fun v _ => n1 - (intOf v).toNat)
  case atStart => exact ⟨0, by omega, rfl, HF, hb0⟩
  case round =>
    clear hb0
    obtain ⟨k, hk, rfl, HR, hB⟩ := hrel
    by_cases hlt : k < n1
    · have hlt' : (k : Int) < (n1 : Int) := by omega
      have hkk : (0 : Int) ≤ (k : Int) := by omega
      obtain ⟨b, o, x, Aw, nw, cw, hA1, hx, hrg0, hok, hw1, hw2, hwc⟩ := in_at hI k hlt
      have hrg := range_below hB hrg0
      have hdr := hasWit_drop t.ins k x hx
      have hidl := hok.idl
      have i1 := info_in x hidl (.slice Aw nw cw)
      have hnw := hwc.len
      unfold maxLen at hw2
      have HD := Lib.hid hdr
      have HX := Lib.hid hx
      have HNW := Lib.hid hnw
      have hsr := hB.size
      subst hA1
      clear hdr hx hnw hrg0
      go_upto_region 4 with (first | (refine wpList_load_mid rfl 67 (.tmp 10) rfl b (o + k * 36) rfl (inCells x (.slice Aw nw cw)) _ hrg hU2 rfl i1 ?_) | (refine wpList_store_any rfl 67 (.tmp 4) (.tmp 11) rfl wr.heap.size (inCells x (.slice Aw nw cw)).toArray rfl rfl 67 (inCells in0 (.slice none 0 0)).toArray (heap_alloc_new _ _) (info_inA x hidl _) (in_sizes x hidl _) (in_one x _ rfl) ?_; intro w2 g2 ht2))
      have hb2 : Below wr.heap.size wr w2 := ht2.below ((Below.refl wr.heap.size wr).alloc (Nat.le_refl _) _) (Nat.le_refl _)
      have hB2 := below_then hB hB.size hb2
      have s2 : w2.cell? ⟨wr.heap.size, 35, none⟩ = some (.slice Aw nw cw) := blk_cell g2 (by rw [List.getElem?_toArray]; exact inCells_at hidl _ 3)
      clear ht2 hb2 hrg g2 hB
      by_cases f1 : 0 < nw
      · have f1' : (0 : Int) < (nw : Int) := by omega
        have hf : t.hasWit = true := by rw [HR.out, HD.out, decide_eq_true (by have := HNW.out; omega)]; rfl
        have HF3 := Lib.hid hf
        clear hf
        go_wp2
        go_ret
        rw [HF3.out]
        exact ⟨rfl, hB2⟩
      · have f1' : ¬ (0 : Int) < (nw : Int) := by omega
        have HR2 : Hid (t.hasWit = (t.ins.drop (k + 1)).any fun i => decide (0 < i.wit.length)) := Lib.hid (by rw [HR.out, HD.out, decide_eq_false (by have := HNW.out; omega)]; rfl)
        go_wp2
        go_roundw
        case rel => exact ⟨k + 1, by omega, by go_num, HR2, hB2⟩
        case measure => simp [intOf]; omega
    · have hlt' : ¬ (k : Int) < (n1 : Int) := by omega
      have hf : t.hasWit = false := by rw [HR.out, List.drop_eq_nil_of_le (by have := HIL.out; omega)]; rfl
      have HF3 := Lib.hid hf
      clear hf
      go_wp2
      go_ret
      rw [HF3.out]
      exact ⟨rfl, hB⟩
end Go.Proofs.YtclkgflficlmiaaDoor
