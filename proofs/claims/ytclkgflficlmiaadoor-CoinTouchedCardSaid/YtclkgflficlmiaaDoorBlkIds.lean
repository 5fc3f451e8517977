/- block.Ids: the numbers of a block's transactions. -/
import Derived.Test.YtclkgflficlmiaaDoorBlkLaw
import Derived.Test.YtclkgflficlmiaaDoorBlkRoot
set_option maxRecDepth 100000
set_option linter.unusedVariables false
namespace Go.Proofs.YtclkgflficlmiaaDoor
open Go Go.RowKit
def idF (t : TTx) : List Int := dblF (layF t false)
def idsF (ts : List TTx) : List (List Int) := ts.map idF
theorem idF_dig (t : TTx) : Dig (idF t) := ⟨dblF_length _, dblF_bytes _⟩
theorem idsF_digs (ts : List TTx) : Digs (idsF ts) := fun x hx => by
  obtain ⟨t, _, rfl⟩ := List.mem_map.1 hx
  exact idF_dig t
set_option maxHeartbeats 8000000 in
theorem ids_calls (w : World) (hT : Tabs w) (S : Nat → Prop) (h : Hd) (hk : h.Ok) (A : Option Addr) (n c : Nat) (ts : List TTx) (hnc : n ≤ c) (hcm : c ≤ maxLen) (hn : n ≤ 1000000) (hC : txK.C S w A n ts) (hl : ∀ t ∈ ts, (layF t false).length ≤ 9000000000 ∧ Bytes (layF t false)) :
    Calls Tryd.prog 29 #[.agg (blkCells h A n c).toArray] w fun e w' => ∃ A' c', e = .returned (.slice A' n c') ∧ HOwn w' w.heap.size 24 (.slice A' n c') n (idsF ts) ∧ Below w.heap.size w w' := by
  have hU := Tryd.underlying54
  have hcm' := hcm
  unfold maxLen at hcm'
  have hnI : (n : Int) ≤ 9223372036854775807 := by omega
  have hln := Lib.hid hC.len
  have HLL := Lib.hid hl
  have g0 := heap_alloc_new w (.cells (blkCells h A n c).toArray 49)
  have hb0 : Below w.heap.size w (w.alloc (.cells (blkCells h A n c).toArray 49)) := (Below.refl _ _).alloc (Nat.le_refl _) _
  have tS0 : (w.alloc (.cells (blkCells h A n c).toArray 49)).cell? ⟨w.heap.size, 68, none⟩ = some (.slice A n c) := blk_cell g0 (by rw [List.getElem?_toArray]; exact blkCells_at hk A n c)
  clear hl
  go_enter Tryd.func29, Tryd.ntmps29
  go_upto_region 1 with fail
  refine wp_gen (q := fun wi => Below w.heap.size w wi ∧ wi.cell? ⟨w.heap.size, 68, none⟩ = some (.slice A n c)) ⟨hb0, tS0⟩ (fun w0 hw => ?_)
  clear hb0 g0 tS0
  obtain ⟨hb0, tS⟩ := hw
  have hC0 := RK.C.below hC hb0
  have h0 : HOwn w0 w0.heap.size 24 (.slice none 0 0) 0 (idsF (ts.take 0)) := RK.Own.nil _ _ _ _ _
  clear hC
  go_wp2
  go_loopw [3, 9] (fun v3 v9 wr => ∃ (k : Nat) (A3 : Option Addr) (c3 : Nat), k ≤ n ∧ v9 = .int .i64 k ∧ v3 = .slice A3 k c3 ∧ HOwn wr w0.heap.size 24 (.slice A3 k c3) k (idsF (ts.take k)) ∧ Below w0.heap.size w0 wr) (fun _ v _ => n - (intOf v).toNat)
  case atStart => exact ⟨0, none, 0, by omega, rfl, rfl, h0, Below.refl _ _⟩
  case round =>
    clear h0
    obtain ⟨k, A3, c3, hk', rfl, rfl, hO, hB0⟩ := hrel
    have hB := below_then hb0 hb0.size hB0
    have hms := hB0.size
    by_cases hlt : k < n
    · have hlt' : (k : Int) < (n : Int) := by omega
      have hkk : (0 : Int) ≤ (k : Int) := by omega
      obtain ⟨b, o, cs, x, hA, hx, hKx, hcx⟩ := (RK.C.below hC0 hB0).get k hlt
      subst hA
      have HLX := Lib.hid (HLL.out x (List.mem_of_getElem? hx))
      have HID : Hid (idsF (ts.take k) ++ [idF x] = idsF (ts.take (k + 1))) := Lib.hid (by unfold idsF; rw [List.take_add_one, hx]; simp)
      obtain ⟨X1, xc1, X2, xc2, rfl, x1, x2, x3, x4, _, _⟩ := txK_form hKx
      unfold maxLen at x2 x4
      have hrx : wr.rangeAt b (o + k * 4) [.int .i32 x.ver, .slice X1 x.ins.length xc1, .slice X2 x.outs.length xc2, .int .u32 x.lock] := hcx
      have hi4 := info_tx4 (.int .i32 x.ver) (.slice X1 x.ins.length xc1) (.slice X2 x.outs.length xc2) (.int .u32 x.lock)
      clear hx hcx
      go_upto_region 5 with (first
        | ((with_reducible refine wpList_at 12 ?_); refine wpList_load_mid rfl 54 (.tmp 11) rfl b (o + k * 4) rfl [.int .i32 x.ver, .slice X1 x.ins.length xc1, .slice X2 x.outs.length xc2, .int .u32 x.lock] _ hrx hU rfl hi4 ?_))
      refine wp_gen (q := fun wi => wi.heap[wr.heap.size]? = some (.cells ([.int .i32 x.ver, .slice X1 x.ins.length xc1, .slice X2 x.outs.length xc2, .int .u32 x.lock]).toArray 54) ∧ Below wr.heap.size wr wi) ⟨heap_alloc_new _ _, (Below.refl _ _).alloc (Nat.le_refl _) _⟩ (fun w5 hw => ?_)
      obtain ⟨g5, hb5⟩ := hw
      have hB5 := below_then hB hB.size hb5
      have hB05 := below_then hB0 hB0.size hb5
      have hO5 := hO.below hb5
      have hKx5 := RK.K_below hKx hb5
      clear hrx hO hKx hb5 hB hB0
      go_wp2_with (first | ((with_reducible refine wpList_at 14 ?_); refine wpList_load_row rfl 54 (.tmp 5) rfl wr.heap.size rfl 54 _ _ _ g5 hU rfl hi4 ?_))
      refine (txid_calls w5 (hT.below hB5) _ x [.int .i32 x.ver, .slice X1 x.ins.length xc1, .slice X2 x.outs.length xc2, .int .u32 x.lock] hKx5 HLX.out.1 HLX.out.2).mono ?_
      rintro e w6 ⟨rfl, hb6⟩
      have hB6 := below_then hB5 hB5.size hb6
      have hB06 := below_then hB05 hB05.size hb6
      have hO6 := hO5.below hb6
      have hms6 := hB06.size
      have hdx : Dig (idF x) := idF_dig x
      obtain ⟨dx, hdx0⟩ : ∃ d, dblF (layF x false) = d := ⟨_, rfl⟩
      have HDX : Hid (idF x = dx) := Lib.hid hdx0
      rw [HDX.out] at hdx HID
      rw [hdx0]
      have hO6a := hO6.alloc (.cells (nums .u8 dx).toArray 24)
      have hone := HC.one (heap_alloc_new w6 (.cells (nums .u8 dx).toArray 24)) hdx (fun _ => True) trivial
      have hms7 : w0.heap.size ≤ (w6.alloc (.cells (nums .u8 dx).toArray 24)).heap.size := by simp; omega
      have hd1 := Digs.one hdx
      clear g5 hO5 hKx5 hB5 hB05 hb6 hdx0
      go_upto_region 6 with (first
        | ((with_reducible refine wpList_at 16 ?_); refine wpList_buildH rfl 58 24 1 _ rfl Tryd.underlying58 zinfo_hash [dx] rfl hd1 rfl (by decide) (by decide) (nums .u8 dx) (flatH_one _) ?_)
        | ((with_reducible refine wpList_at 17 ?_); refine RK.wpList_appK hashK _ rfl (.tmp 13) (.tmp 16) 58 rfl (fun _ => False) w0.heap.size 24 _ 32 Tryd.underlying58 zinfo_hash rfl (by decide) (.slice A3 k c3) k (idsF (ts.take k)) rfl hO6a (fun q h => h.elim) _ 1 1 [dx] rfl (fun _ => True) hone (fun _ _ h => h) (k + 1) (idsF (ts.take (k + 1))) rfl HID.out (by unfold maxLen; omega) (by omega) hms7 ?_
           intro A7 c7 w7 hO7 hG7 hx7))
      have hlt6 := hO6a.lt
      have hB7 : Below w0.heap.size w0 w7 := (hB06.alloc hB06.size _).grown hG7 hms7 (fun q e => (hlt6 q e).1)
      clear hO6 hO6a hone hG7 hx7 hlt6 hB6 hB06
      go_wp2
      go_roundw
      case rel => exact ⟨k + 1, A7, c7, by omega, by go_num, rfl, hO7, hB7⟩
      case measure => simp [intOf]; omega
    · have hlt' : ¬ (k : Int) < (n : Int) := by omega
      have hkn : k = n := by omega
      subst hkn
      have htk : ts.take k = ts := List.take_of_length_le (by rw [hln.out]; omega)
      rw [htk] at hO
      go_wp2
      go_ret
      exact ⟨A3, c3, rfl, hO.base_ hb0.size, hB⟩
end Go.Proofs.YtclkgflficlmiaaDoor
