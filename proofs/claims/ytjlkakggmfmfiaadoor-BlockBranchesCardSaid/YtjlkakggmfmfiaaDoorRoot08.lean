/- The reference's Root, and the law's raw. -/
import Derived.Test.YtjlkakggmfmfiaaDoorRows08
set_option maxRecDepth 100000
set_option linter.unusedVariables false
namespace Go.Proofs.YtjlkakggmfmfiaaDoor
open Go Go.RowKit
set_option maxHeartbeats 2000000 in
theorem root08_calls (w : World) (A : Option Addr) (n c : Nat) (ids : List (List Int)) (hnc : n ≤ c) (hcm : c ≤ maxLen) (hn : n ≤ 1000000) (hC : HC w A n ids) :
    Calls Tryd.prog 29 #[.agg (nums .u32 tabs72).toArray, .slice A n c] w fun e w' => e = .returned (.agg (nums .u8 (rootF ids)).toArray) ∧ Below w.heap.size w w' := by
  have hl := hC.len
  have hR := (rootF_dig _ ids (Nat.le_refl _) (HC.digs hC)).1
  have u2 := Tryd.underlying24
  have hb0 : Below w.heap.size w ((w.alloc (.cells (nums .u32 tabs72).toArray 31)).alloc (.cells (nums .u8 zeros32).toArray 24)) := ((Below.refl _ _).alloc (Nat.le_refl _) _).alloc (by simp) _
  have g0 : ((w.alloc (.cells (nums .u32 tabs72).toArray 31)).alloc (.cells (nums .u8 zeros32).toArray 24)).heap[w.heap.size]? = some (.cells (nums .u32 tabs72).toArray 31) := heap_alloc2_old _ _ _
  have g1 : ((w.alloc (.cells (nums .u32 tabs72).toArray 31)).alloc (.cells (nums .u8 zeros32).toArray 24)).heap[w.heap.size + 1]? = some (.cells (nums .u8 zeros32).toArray 24) := heap_alloc2_new _ _ _
  by_cases hn0 : n = 0
  · subst hn0
    obtain rfl := List.eq_nil_of_length_eq_zero hl
    rw [rootF_nil]
    clear hl hR hC
    go_enter Tryd.func29, Tryd.ntmps29
    go_wp2_with (first | (refine wpList_store_any rfl 24 (.tmp 4) (.tmp 9) rfl (w.heap.size + 1) (nums .u8 zeros32).toArray rfl rfl 24 (nums .u8 zeros32).toArray g1 (info_z32 _ rfl) rfl (nums_all _ _) ?_; intro w4 h4 ht4))
    refine bodyPost_ret (results_cell_row rfl _ _ (w.heap.size + 1) 24 (nums .u8 zeros32).toArray (0, 0) _ rfl h4 u2 rfl (info_z32 _ rfl)) rfl ⟨rfl, ht4.below hb0 (by omega)⟩
  · have hn1 : ((n : Int) == 0) = false := by rw [beq_eq_false_iff_ne]; omega
    have hCa := RK.C.below hC hb0
    obtain ⟨x, hx1, hx2⟩ := rowsF_last _ ids (Nat.le_refl _) (by intro h; rw [h] at hl; exact hn0 hl.symm)
    have HX1 := Lib.hid hx1
    have HX2 := Lib.hid hx2
    clear hl hx1 hx2
    go_enter Tryd.func29, Tryd.ntmps29
    go_wp2_with (first | (refine wpList_load_row rfl 31 (.tmp 2) rfl w.heap.size rfl 31 _ _ _ g0 Tryd.underlying31 rfl (info_tabL tabs72 rfl) ?_))
    refine (rows_calls _ A n c ids hnc hcm hn (fun _ => True) (fun _ _ => trivial) hCa).mono ?_
    rintro e w1 ⟨A1, m, c1, rfl, hC1, hb1⟩
    have g11 := heap_below hb1 g1
    have b01 := below_then hb0 hb0.size hb1
    have hml : (rowsF ids).length = m := hC1.len
    have hm0 : 0 < m := by
      rcases Nat.eq_zero_or_pos m with h | h
      · have := HX1.out
        rw [List.eq_nil_of_length_eq_zero (hml.trans h)] at this
        simp at this
      · exact h
    have hmx : m ≤ 1000001 := by
      have := rowsF_length n ids (by rw [hC.len]; exact Nat.le_refl _)
      omega
    obtain ⟨b, o, cs, y, hA, hy, ⟨A2, n2, c2, rfl, hn2, hc2, hC2⟩, hcell⟩ := hC1.get (m - 1) (by omega)
    obtain rfl : y = [x] := by
      have := HX1.out
      rw [hml, hy] at this
      simpa using this
    have hc0 := hcell 0 _ rfl
    rw [show o + (m - 1) * rowK.sz + 0 = o + (m - 1) by show o + (m - 1) * 1 + 0 = _; omega] at hc0
    obtain rfl : n2 = 1 := hC2.len.symm
    obtain ⟨b2, o2, rfl, hb2, hr2⟩ := HC.addr hC2 (by omega)
    have r2 := hr2 0 (by omega)
    rw [Nat.zero_mul, Nat.add_zero, show dg [x] 0 = x from rfl, HX2.out] at r2
    have hi1 := ilen_a32 (rootF ids) hR
    subst hA
    have hm1 : (0 : Int) ≤ (m : Int) - 1 := by omega
    have hm2 : (m : Int) - 1 < (m : Int) := by omega
    have hm3 : (1 : Int) ≤ (m : Int) := by omega
    have hm4 : ((m : Int) - 1).toNat = m - 1 := by omega
    clear hcell hr2 hy hml hC1 hC2 hCa hb0 g0 g1 hb1 hC
    go_wp2_with (first | (refine wpList_load_mid rfl 24 (.tmp 19) rfl b2 o2 rfl (nums .u8 (rootF ids)) _ r2 u2 rfl hi1 ?_) | (refine wpList_store_any rfl 24 (.tmp 4) (.tmp 20) rfl (w.heap.size + 1) (nums .u8 (rootF ids)).toArray rfl rfl 24 (nums .u8 zeros32).toArray g11 (info_z32 _ hR) (size_h _ hR) (nums_all _ _) ?_; intro w4 h4 ht4))
    refine bodyPost_ret (results_cell_row rfl _ _ (w.heap.size + 1) 24 (nums .u8 (rootF ids)).toArray (0, 0) _ rfl h4 u2 rfl (info_z32 _ hR)) rfl ⟨rfl, ht4.below b01 (by omega)⟩
set_option maxHeartbeats 2000000 in
theorem raw_calls (w : World) (A : Option Addr) (n c : Nat) (ids : List (List Int)) (hnc : n ≤ c) (hn : n ≤ 1000000) (hC : HC w A n ids) :
    Calls Tryd.prog 30 #[.slice A n c] w (RowPost w 24 n ids) := by
  have hl := hC.len
  have hd := HC.digs hC
  have u2 := Tryd.underlying25
  have hb0 : Below w.heap.size w (w.alloc (.cells #[] 24)) := (Below.refl _ _).alloc (Nat.le_refl _) _
  have hE : HOwn (w.alloc (.cells #[] 24)) w.heap.size 24 (.slice (some ⟨w.heap.size, 0, none⟩) 0 0) 0 [] := RK.Own.empty hashK _ 24 (Nat.le_refl _)
  have HL := Lib.hid hl
  clear hl
  go_enter Tryd.func30, Tryd.ntmps30
  go_wp2
  go_loopw [3, 9] (fun v3 v9 wr => ∃ (k : Nat) (A1 : Option Addr) (c1 : Nat), k ≤ n ∧ v9 = .int .i64 k ∧ v3 = .slice A1 k c1 ∧ HOwn wr w.heap.size 24 (.slice A1 k c1) k (ids.take k) ∧ Below w.heap.size w wr) (fun _ v _ => n - (intOf v).toNat)
  case atStart => exact ⟨0, _, 0, by omega, rfl, rfl, hE, hb0⟩
  case round =>
    clear hE hb0
    obtain ⟨k, A1, c1, hk, rfl, rfl, hO, hB⟩ := hrel
    by_cases hlt : k < n
    · have hlt' : (k : Int) < (n : Int) := by omega
      have hk0 : (0 : Int) ≤ (k : Int) := by omega
      have hx := dg_dig hd k (by rw [HL.out]; exact hlt)
      obtain ⟨b, o, rfl, hbw, hr⟩ := HC.addr hC (by omega)
      have rx := range_below hB (hr k hlt)
      have i1 := ilen_hash (dg ids k) hx.1
      have ht : Hid (ids.take k ++ [dg ids k] = ids.take (k + 1)) := Lib.hid (by rw [List.take_add_one, dg_get ids k (by rw [HL.out]; exact hlt)]; rfl)
      have HRR := Lib.hid hr
      clear hr
      go_upto_region 5 with (first | (refine wpList_load_mid rfl 25 (.tmp 11) rfl b (o + k * 32) rfl (nums .u8 (dg ids k)) _ rx u2 rfl i1 ?_) | (refine wpList_store_any rfl 25 (.tmp 5) (.tmp 12) rfl wr.heap.size (nums .u8 (dg ids k)).toArray rfl rfl 25 (nums .u8 zeros32).toArray (heap_alloc_new _ _) (info_h _ hx.1) (size_h _ hx.1) (nums_all _ _) ?_; intro w2 h2 ht2))
      have hb2 : Below wr.heap.size wr w2 := ht2.below ((Below.refl wr.heap.size wr).alloc (Nat.le_refl _) _) (Nat.le_refl _)
      have hO2 := RK.Own.below hO hb2
      have hB2 := below_then hB hB.size hb2
      have hs2 := hB2.size
      have hOb := RK.Own.alloc hO2 (.cells (nums .u8 (dg ids k)).toArray 24)
      have hgb := heap_alloc_new w2 (.cells (nums .u8 (dg ids k)).toArray 24)
      have hBb : Below w.heap.size w (w2.alloc (.cells (nums .u8 (dg ids k)).toArray 24)) := hB2.alloc hB2.size _
      have HLT : Hid (∀ q, (Value.slice A1 k c1).ownBlock = some q → w.heap.size ≤ q) := Lib.hid fun q hq => (hO.lt q hq).1
      clear ht2 hb2 hO hO2 hB rx
      go_wp2_with (first | (refine wpList_load_row rfl 25 (.tmp 5) rfl wr.heap.size rfl 25 _ _ _ h2 u2 rfl (info_h _ hx.1) ?_) | (refine wpList_buildH rfl 41 24 1 _ rfl Tryd.underlying41 zinfo_a32 [dg ids k] rfl (Digs.one hx) rfl (by decide) (by decide) (nums .u8 (dg ids k)) (flatH_one _) ?_) | (refine wpList_appH rfl (.tmp 13) (.tmp 15) 41 24 rfl Tryd.underlying41 zinfo_a32 w.heap.size (.slice A1 k c1) k (ids.take k) rfl hOb w2.heap.size 1 (dg ids k) rfl hgb hx (ids.take (k + 1)) ht.out (by omega) (by simp; omega) ?_; intro A3 c3 w3 hO3 hg3 hat3))
      have hB3 : Below w.heap.size w w3 := hBb.grown hg3 hBb.size (fun q hq => HLT.out q hq)
      clear hg3 hat3 hOb hgb hBb hB2
      go_roundw
      case rel => exact ⟨k + 1, A3, c3, by omega, by go_num, rfl, hO3, hB3⟩
      case measure => simp [intOf]; omega
    · have hlt' : ¬ (k : Int) < (n : Int) := by omega
      obtain rfl : k = n := by omega
      rw [List.take_of_length_le (by rw [HL.out]; exact Nat.le_refl _)] at hO
      go_wp2
      go_ret
      exact ⟨A1, c1, rfl, hO, hB⟩
end Go.Proofs.YtjlkakggmfmfiaaDoor
