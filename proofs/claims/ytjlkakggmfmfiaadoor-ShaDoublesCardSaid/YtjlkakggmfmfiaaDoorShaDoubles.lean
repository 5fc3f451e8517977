/- tailracelaw03.ShaDoubles: whatever bytes and digests, with the right tables, it returns true: the digest of a digest, and of two, are those of the document's way. -/
import Derived.Test.YtjlkakggmfmfiaaDoorRefSum
import Derived.Test.YtjlkakggmfmfiaaDoorMake
import Derived.Test.YtjlkakggmfmfiaaDoorSha2
import Derived.Test.YtjlkakggmfmfiaaDoorDoor
import Derived.Test.YtjlkakggmfmfiaaDoorKinds
import Derived.Test.YtjlkakggmfmfiaaDoorTie
import Derived.Test.YtjlkakggmfmfiaaDoorCards
import Derived.SevenTiedAt
import Derived.Deep.RegionHeld3
set_option maxRecDepth 100000
set_option linter.unusedVariables false
namespace Go.Proofs.YtjlkakggmfmfiaaDoor
open Go Go.RowKit
theorem range_block {w : World} {g : Nat} {xs : List Value} {t : TypeId} {fz : Nat × Nat} (h : w.heap[g]? = some (.cells xs.toArray t fz)) : w.rangeAt g 0 xs := fun j v hv => by
  rw [Nat.zero_add]
  exact blk_cell h (by simpa using hv)
theorem range_below {w w1 : World} (hb : Below w.heap.size w w1) {b o : Nat} {cs : List Value} (h : w.rangeAt b o cs) : w1.rangeAt b o cs := fun j v hv => cell_below hb (h j v hv)
theorem eq_digests (xs ys : List Int) (hx : xs.length = 32) (hy : ys.length = 32) (e : xs = ys) (W : World) : (Op.equalIn 10000 25 (.agg (nums .u8 xs).toArray) (.agg (nums .u8 ys).toArray)).run Tryd.prog W = .ok true W := by
  rw [run_equalIn_nums (P := Tryd.prog) W 9998 25 5 32 .u8 .u8 Tryd.underlying25 Tryd.underlying5 info_u8 xs ys hx hy, e, beq_self_eq_true]
theorem eq_runs (xs ys : List Int) (hx : xs.length = 32) (hy : ys.length = 32) (e : xs = ys) (W : World) : (binOp .eql 25 (.agg (nums .u8 xs).toArray) (.agg (nums .u8 ys).toArray)).run Tryd.prog W = .ok (.bool true) W := by
  rw [run_eql_nums (P := Tryd.prog) W 25 5 32 .u8 .u8 Tryd.underlying25 Tryd.underlying5 info_u8 xs ys hx hy, e, beq_self_eq_true]
theorem info_z32 (xs : List Int) (h : xs.length = 32) : (Tryd.prog.info? 24).map (·.size) = some (nums .u8 xs).toArray.size := by rw [nums_size, h]; exact info_a32
theorem run_ld_tables (w : World) (b : Nat) (h : w.rangeAt b 0 (nums .u32 tabs72)) : (Instr.loadAt 31 (.pointer (some ⟨b, 0, none⟩))).run Tryd.prog w = .ok (.agg (nums .u32 tabs72).toArray) w := by
  simp only [Instr.loadAt, Instr.sureAddr, Sem.run_bind, Sem.run_pure, Result.andThen_ok, run_loadVar_mid w b 0 31 (nums .u32 tabs72) _ h Tryd.underlying31 rfl (by rw [nums_length]; exact info_tab)]
def tabV (v : Value) (w : World) : Prop := match v with | .pointer (some ⟨b, 0, none⟩) => w.rangeAt b 0 (nums .u32 tabs72) | _ => False
theorem tabV_ptr (b : Nat) (w : World) : tabV (.pointer (some ⟨b, 0, none⟩)) w = w.rangeAt b 0 (nums .u32 tabs72) := rfl
theorem run_ld_exec (ρ : Operand → Value) {d t p af g} (w : World) (h : tabV (ρ (.tmp 7)) w) :
    (execOp ρ (Oper.mk d (.load 31 (.tmp 7)) t p af g)).run Tryd.prog w = .ok (.value (.agg (nums .u32 tabs72).toArray)) w := by
  obtain ⟨b, hb⟩ : ∃ b, ρ (.tmp 7) = .pointer (some ⟨b, 0, none⟩) := by
    unfold tabV at h
    split at h
    · next b heq => exact ⟨b, heq⟩
    · exact h.elim
  rw [hb, tabV_ptr] at h
  simp only [execOp, hb, Sem.run_bind, Sem.run_pure, run_ld_tables w b h, Result.andThen_ok]
attribute [local go_sem ↓] run_ld_exec
attribute [local go_sem] tabV_ptr
set_option maxHeartbeats 2000000 in
theorem shaDoubles_walk (w : World) (hT : Tabs w) (A : Option Addr) (n c0 : Nat) (bs : List Int) (hnc : n ≤ c0) (hcm : c0 ≤ maxLen) (hC : (RK.int .u8).C (· < w.heap.size) w A n bs) (xs : List Int) (hxl : xs.length = 32) (hxb : Bytes xs) (ys : List Int) (hyl : ys.length = 32) (hyb : Bytes ys) :
    Calls Tryd.prog 5 #[.slice A n c0, .agg (nums .u8 xs).toArray, .agg (nums .u8 ys).toArray] w fun e w' => e = .returned (.bool true) ∧ Below w.heap.size w w' := by
  have hr := hC.rd_int
  have hbs := hC.bytes
  clear hC
  unfold maxLen at hcm
  have g1 : ((w.alloc (.cells (nums .u8 xs).toArray 25)).alloc (.cells (nums .u8 ys).toArray 25)).heap[w.heap.size]? = some (.cells (nums .u8 xs).toArray 25) := heap_alloc2_old _ _ _
  have g2 : ((w.alloc (.cells (nums .u8 xs).toArray 25)).alloc (.cells (nums .u8 ys).toArray 25)).heap[w.heap.size + 1]? = some (.cells (nums .u8 ys).toArray 25) := heap_alloc2_new _ _ _
  have hb0 : Below w.heap.size w ((w.alloc (.cells (nums .u8 xs).toArray 25)).alloc (.cells (nums .u8 ys).toArray 25)) := ((Below.refl _ _).alloc (Nat.le_refl _) _).alloc (by simp) _
  go_enter Tryd.func5, Tryd.ntmps5
  go_upto_region 1 with fail
  refine wp_gen (q := fun wi => wi.heap[w.heap.size]? = some (.cells (nums .u8 xs).toArray 25) ∧ wi.heap[w.heap.size + 1]? = some (.cells (nums .u8 ys).toArray 25) ∧ Below w.heap.size w wi) ⟨g1, g2, hb0⟩ (fun wi hw => ?_)
  clear g1 g2 hb0
  obtain ⟨g1, g2, hb0⟩ := hw
  have hTi := hT.below hb0
  have hri := hr.below hb0
  go_wp2_with fail
  refine (head03_calls _ hTi).mono ?_
  rintro e w0 ⟨rfl, hbh⟩
  have hT0 := hTi.below hbh
  have hr0 := hri.below hbh
  have k1 := heap_below hbh g1
  have k2 := heap_below hbh g2
  have hb1 := below_then hb0 hb0.size hbh
  clear hT hr hTi hri g1 g2 hb0 hbh
  by_cases hn : 500 < n
  · have hn' : (500 : Int) < (n : Int) := by omega
    go_wp2
    go_ret
    exact ⟨rfl, hb1⟩
  · have hn' : ¬ (500 : Int) < (n : Int) := by omega
    go_wp2_with fail
    refine (make_calls _).mono ?_
    rintro e w1 ⟨rfl, hbm⟩
    have hT1 := hT0.below hbm
    have hr1 := hr0.below hbm
    have l1 := heap_below hbm k1
    have l2 := heap_below hbm k2
    have hb2 := below_then hb1 hb1.size hbm
    have hlt2 := heap_lt l2
    clear hT0 hr0 k1 k2 hb1 hbm
    go_upto_region 6 with (first | (refine wpList_store_any rfl 31 (.tmp 7) (.tmp 16) rfl w1.heap.size (nums .u32 tabs72).toArray rfl rfl 31 (nums .u32 zeros72).toArray (heap_alloc_new _ _) (info_tabL tabs72 rfl) rfl (nums_all _ _) ?_; intro w2 h2 ht2))
    have hb12 : Below w1.heap.size w1 w2 := ht2.below ((Below.refl w1.heap.size w1).alloc (Nat.le_refl _) _) (Nat.le_refl _)
    have hT2 := hT1.below hb12
    have hr2 := hr1.below hb12
    have m1 := heap_below hb12 l1
    have m2 := heap_below hb12 l2
    have hb3 := below_then hb2 hb2.size hb12
    have hs2 := hb12.size
    have hlt7 := heap_lt h2
    clear ht2 hT1 hr1 l1 l2 hb2 hb12
    go_wp2_with (first | (refine wpList_load_row rfl 31 (.tmp 7) rfl w1.heap.size rfl 31 _ _ _ h2 Tryd.underlying31 rfl (info_tabL tabs72 rfl) ?_))
    refine (refsum_calls A n c0 bs _ (by omega) hbs hr2).mono ?_
    rintro e w3 ⟨rfl, hb23⟩
    have hT3 := hT2.below hb23
    have hr3 := hr2.below hb23
    have p1 := heap_below hb23 m1
    have p2 := heap_below hb23 m2
    have p7 := heap_below hb23 h2
    have hb4 := below_then hb3 hb3.size hb23
    have hs3 := hb23.size
    clear hT2 hr2 m1 m2 h2 hb3 hb23
    have hs := sumF_length bs
    go_upto_region 7 with (first | (refine wpList_store_any rfl 24 (.tmp 8) (.tmp 19) rfl w3.heap.size (nums .u8 (sumF bs)).toArray rfl rfl 24 (nums .u8 zeros32).toArray (heap_alloc_new _ _) (info_z32 _ hs) (size_h _ hs) (nums_all _ _) ?_; intro w4 h4 ht4))
    have hb34 : Below w3.heap.size w3 w4 := ht4.below ((Below.refl w3.heap.size w3).alloc (Nat.le_refl _) _) (Nat.le_refl _)
    have hT4 := hT3.below hb34
    have hr4 := hr3.below hb34
    have q1 := heap_below hb34 p1
    have q2 := heap_below hb34 p2
    have q7 := heap_below hb34 p7
    have hb5 := below_then hb4 hb4.size hb34
    have hs4 := hb34.size
    have hlt8 := heap_lt h4
    clear ht4 hT3 hr3 p1 p2 p7 hb4 hb34 hs
    have hown0 := own_new (w := w4) (base := w4.heap.size) (e := 5) (nums .u8 []) (Nat.le_refl _) (by decide)
    have rx : Rd (w4.alloc (.cells (nums .u8 []).toArray 5)) (some ⟨w.heap.size, 0, none⟩) 32 (nums .u8 xs) := by have := (Rd.of_block0 q1).alloc (.cells (nums .u8 []).toArray 5); rwa [nums_length, hxl] at this
    go_upto_region 9 with (first | (refine wpList_appN rfl (.tmp 21) (.tmp 22) 22 rfl w4.heap.size 5 _ 1 Tryd.underlying22 info8S rfl (.slice (some ⟨w4.heap.size, 0, none⟩) 0 0) 0 (nums .u8 []) rfl hown0 (some ⟨w.heap.size, 0, none⟩) 32 32 (nums .u8 xs) rfl rx (nums_one _ _) 32 (nums .u8 xs) (Nat.zero_add _) rfl (by decide) (by decide) (by simp) ?_; intro A5 c5 w5 hown5 hgrow5 hat5))
    have hb45 : Below w4.heap.size w4 w5 := ((Below.refl _ _).alloc (Nat.le_refl _) _).grown hgrow5 (by simp) (fun k hk => by simp [Value.ownBlock] at hk; omega)
    have hs5 := hb45.size
    have ry : Rd w5 (some ⟨w.heap.size + 1, 0, none⟩) 32 (nums .u8 ys) := by have := (Rd.of_block0 q2).below hb45; rwa [nums_length, hyl] at this
    clear hown0 hgrow5 hat5 rx
    go_upto_region 10 with (first | (refine wpList_appN rfl (.tmp 24) (.tmp 25) 22 rfl w4.heap.size 5 _ 1 Tryd.underlying22 info8S rfl (.slice A5 32 c5) 32 (nums .u8 xs) rfl hown5 (some ⟨w.heap.size + 1, 0, none⟩) 32 32 (nums .u8 ys) rfl ry (nums_one _ _) 64 (nums .u8 (xs ++ ys)) rfl (nums_append _ _ _).symm (by decide) (by decide) hs5 ?_; intro A6 c6 w6 hown6 hgrow6 hat6))
    have hb46 : Below w4.heap.size w4 w6 := hb45.grown hgrow6 hs5 (fun k hk => own_base hown5 k hk)
    have hT6 := hT4.below hb46
    have hr6 := hr4.below hb46
    have t1 := heap_below hb46 q1
    have t2 := heap_below hb46 q2
    have t7 := heap_below hb46 q7
    have t8 := heap_below hb46 h4
    have hb6 := below_then hb5 hb5.size hb46
    have hm6 := Rd.of_own hown6
    have hc6 := (own_le hown6).1
    have hs6 := hb46.size
    clear hown5 hgrow6 hat6 hb45 hb46 ry hT4 hr4 q1 q2 q7 h4 hb5 hown6
    go_wp2_with (first | (refine wpList_load_row rfl 31 (.tmp 7) rfl w1.heap.size rfl 31 _ _ _ t7 Tryd.underlying31 rfl (info_tabL tabs72 rfl) ?_))
    refine (refsum_calls A6 64 c6 (xs ++ ys) _ (by decide) (hxb.append hyb) hm6).mono ?_
    rintro e w7 ⟨rfl, hb67⟩
    have hT7 := hT6.below hb67
    have hr7 := hr6.below hb67
    have z1 := heap_below hb67 t1
    have z2 := heap_below hb67 t2
    have z7 := heap_below hb67 t7
    have z8 := heap_below hb67 t8
    have hb7 := below_then hb6 hb6.size hb67
    clear hT6 hr6 t1 t2 t7 t8 hb6 hm6 hb67
    have hs := sumF_length (xs ++ ys)
    go_upto_region 11 with (first | (refine wpList_store_any rfl 24 (.tmp 10) (.tmp 29) rfl w7.heap.size (nums .u8 (sumF (xs ++ ys))).toArray rfl rfl 24 (nums .u8 zeros32).toArray (heap_alloc_new _ _) (info_z32 _ hs) (size_h _ hs) (nums_all _ _) ?_; intro w8 h8 ht8))
    have hb78 : Below w7.heap.size w7 w8 := ht8.below ((Below.refl w7.heap.size w7).alloc (Nat.le_refl _) _) (Nat.le_refl _)
    have hT8 := hT7.below hb78
    have hr8 := hr7.below hb78
    have y1 := range_block (heap_below hb78 z1)
    have y2 := range_block (heap_below hb78 z2)
    have y7 := range_block (heap_below hb78 z7)
    have y8 := Rd.of_block0 (heap_below hb78 z8)
    have y10 := Rd.of_block0 h8
    rw [nums_length, sumF_length] at y8 y10
    have hb8 := below_then hb7 hb7.size hb78
    clear ht8 hT7 hr7 z1 z2 z7 z8 h8 hb7 hb78 hs
    clear hlt2 hs2 hlt7 hs3 hs4 hlt8 hs5 hs6 hc6 hn
    have u1 := Tryd.underlying31
    have u2 := Tryd.underlying25
    have i1 : (Tryd.prog.info? 31).map (·.size) = some (nums .u32 tabs72).length := by rw [nums_length]; exact info_tab
    have i2 : (Tryd.prog.info? 25).map (·.size) = some (nums .u8 xs).length := by rw [nums_length, hxl]; exact info_hash
    have i3 : (Tryd.prog.info? 25).map (·.size) = some (nums .u8 ys).length := by rw [nums_length, hyl]; exact info_hash
    have q1 := eq_digests (dblF bs) (sumF (sumF bs)) (dblF_length _) (sumF_length _) rfl
    have q2 := eq_digests (pairF xs ys) (sumF (sumF (xs ++ ys))) (pairF_length _ _) (sumF_length _) rfl
    simp only [Act.put]
    refine wp_region_noPanic ?_
    refine wp_region_held_drew (S := fun w' => w'.rangeAt w.heap.size 0 (nums .u8 xs) ∧ w'.rangeAt (w.heap.size + 1) 0 (nums .u8 ys) ∧ w'.rangeAt w1.heap.size 0 (nums .u32 tabs72) ∧ Below w8.heap.size w8 w') (by kernel_rfl) ⟨y1, y2, y7, Below.drew (Below.refl _ _)⟩ (fun hHeld => ?_)
    refine wpAnyH_take (i := 0) (oi := ⟨some 30, .move (.tmp 0), _, _, _, _⟩) (v := (.slice A n c0)) rfl (by kernel_rfl) (by kernel_rfl) (by kernel_rfl) (fun _ _ _ h => h) (Or.inl ⟨by rfl, by intro w hSw; (try dsimp only at hSw); go_simp⟩) (by assumption) ?_
    simp only [Act.put, List.setIfInBounds_toArray, List.set_cons_zero, List.set_cons_succ]
    refine wpAnyH_take (i := 2) (oi := ⟨some 32, .load 31 (.tmp 7), _, _, _, _⟩) rfl (by kernel_rfl) (by kernel_rfl) (by kernel_rfl) (fun _ _ _ h => h) (yieldsIf_load_mid (by rfl) _ _ rfl _ _ rfl (nums .u32 tabs72) _ (fun _ h => h.2.2.1) u1 rfl i1) (by assumption) ?_
    simp only [Act.put, List.setIfInBounds_toArray, List.set_cons_zero, List.set_cons_succ]
    refine wpAnyH_take (i := 3) (oi := ⟨some 33, .slice 24 (.tmp 8) none none none, _, _, _, _⟩) (v := (.slice (some ⟨w3.heap.size, 0, none⟩) 32 32)) rfl (by kernel_rfl) (by kernel_rfl) (by kernel_rfl) (fun _ _ _ h => h) (Or.inl ⟨by rfl, by intro w hSw; (try dsimp only at hSw); go_simp⟩) (by assumption) ?_
    simp only [Act.put, List.setIfInBounds_toArray, List.set_cons_zero, List.set_cons_succ]
    refine wpAnyH_ready (rs := [1]) (by kernel_rfl) (by simp) ?_
    refine AllReadyH.cons rfl (fun K hK => ?_) AllReadyH.nil
    go_simp
    refine (double_calls A n c0 bs _ (by unfold maxLen; omega) hnc hbs (hr8.below hHeld.2.2.2) (hT8.below hHeld.2.2.2)).mono ?_
    rintro e wq ⟨rfl, hbq⟩
    try go_wp2_with fail
    refine hK.out _ _ ⟨range_below hbq hHeld.1, range_below hbq hHeld.2.1, range_below hbq hHeld.2.2.1, below_then hHeld.2.2.2 hHeld.2.2.2.size hbq⟩ (fun hHeld' => ?_)
    clear hK K hbq hHeld
    have hHeld := hHeld'
    clear hHeld'
    try (simp only [Act.put, List.setIfInBounds_toArray, List.set_cons_zero, List.set_cons_succ])
    refine wpAnyH_ready (rs := [4]) (by kernel_rfl) (by simp) ?_
    refine AllReadyH.cons rfl (fun K hK => ?_) AllReadyH.nil
    go_simp
    refine (refsum_calls (some ⟨w3.heap.size, 0, none⟩) 32 32 (sumF bs) _ (by decide) (sumF_bytes _) (y8.below hHeld.2.2.2)).mono ?_
    rintro e wq ⟨rfl, hbq⟩
    try go_wp2_with fail
    refine hK.out _ _ ⟨range_below hbq hHeld.1, range_below hbq hHeld.2.1, range_below hbq hHeld.2.2.1, below_then hHeld.2.2.2 hHeld.2.2.2.size hbq⟩ (fun hHeld' => ?_)
    clear hK K hbq hHeld
    have hHeld := hHeld'
    clear hHeld'
    try (simp only [Act.put, List.setIfInBounds_toArray, List.set_cons_zero, List.set_cons_succ])
    refine wpAnyH_take (i := 5) (oi := ⟨some 35, .binOp .eql 25 (.tmp 31) (.tmp 34) 25, _, _, _, _⟩) (v := (.bool true)) rfl (by kernel_rfl) (by kernel_rfl) (by kernel_rfl) (fun _ _ _ h => h) (Or.inl ⟨by rfl, by intro w hSw; (try dsimp only at hSw); go_simp⟩) (by assumption) ?_
    simp only [Act.put, List.setIfInBounds_toArray, List.set_cons_zero, List.set_cons_succ]
    refine wpAnyH_take (i := 6) (oi := ⟨some 36, .move (.tmp 35), _, _, _, _⟩) (v := (.bool true)) rfl (by kernel_rfl) (by kernel_rfl) (by kernel_rfl) (fun _ _ _ h => h) (Or.inl ⟨by rfl, by intro w hSw; (try dsimp only at hSw); go_simp⟩) (by assumption) ?_
    simp only [Act.put, List.setIfInBounds_toArray, List.set_cons_zero, List.set_cons_succ]
    refine wpAnyH_take (i := 7) (oi := ⟨some 37, .load 25 (.tmp 4), _, _, _, _⟩) rfl (by kernel_rfl) (by kernel_rfl) (by kernel_rfl) (fun _ _ _ h => h) (yieldsIf_load_mid (by rfl) _ _ rfl _ _ rfl (nums .u8 xs) _ (fun _ h => h.1) u2 rfl i2) (by assumption) ?_
    simp only [Act.put, List.setIfInBounds_toArray, List.set_cons_zero, List.set_cons_succ]
    refine wpAnyH_take (i := 8) (oi := ⟨some 38, .load 25 (.tmp 5), _, _, _, _⟩) rfl (by kernel_rfl) (by kernel_rfl) (by kernel_rfl) (fun _ _ _ h => h) (yieldsIf_load_mid (by rfl) _ _ rfl _ _ rfl (nums .u8 ys) _ (fun _ h => h.2.1) u2 rfl i3) (by assumption) ?_
    simp only [Act.put, List.setIfInBounds_toArray, List.set_cons_zero, List.set_cons_succ]
    refine wpAnyH_take (i := 10) (oi := ⟨some 40, .load 31 (.tmp 7), _, _, _, _⟩) rfl (by kernel_rfl) (by kernel_rfl) (by kernel_rfl) (fun _ _ _ h => h) (yieldsIf_load_mid (by rfl) _ _ rfl _ _ rfl (nums .u32 tabs72) _ (fun _ h => h.2.2.1) u1 rfl i1) (by assumption) ?_
    simp only [Act.put, List.setIfInBounds_toArray, List.set_cons_zero, List.set_cons_succ]
    refine wpAnyH_take (i := 11) (oi := ⟨some 41, .slice 24 (.tmp 10) none none none, _, _, _, _⟩) (v := (.slice (some ⟨w7.heap.size, 0, none⟩) 32 32)) rfl (by kernel_rfl) (by kernel_rfl) (by kernel_rfl) (fun _ _ _ h => h) (Or.inl ⟨by rfl, by intro w hSw; (try dsimp only at hSw); go_simp⟩) (by assumption) ?_
    simp only [Act.put, List.setIfInBounds_toArray, List.set_cons_zero, List.set_cons_succ]
    refine wpAnyH_ready (rs := [9]) (by kernel_rfl) (by simp) ?_
    refine AllReadyH.cons rfl (fun K hK => ?_) AllReadyH.nil
    go_simp
    refine (pair_calls xs ys hxl hyl hxb hyb _ (hT8.below hHeld.2.2.2)).mono ?_
    rintro e wq ⟨rfl, hbq⟩
    try go_wp2_with fail
    refine hK.out _ _ ⟨range_below hbq hHeld.1, range_below hbq hHeld.2.1, range_below hbq hHeld.2.2.1, below_then hHeld.2.2.2 hHeld.2.2.2.size hbq⟩ (fun hHeld' => ?_)
    clear hK K hbq hHeld
    have hHeld := hHeld'
    clear hHeld'
    try (simp only [Act.put, List.setIfInBounds_toArray, List.set_cons_zero, List.set_cons_succ])
    refine wpAnyH_ready (rs := [12]) (by kernel_rfl) (by simp) ?_
    refine AllReadyH.cons rfl (fun K hK => ?_) AllReadyH.nil
    go_simp
    refine (refsum_calls (some ⟨w7.heap.size, 0, none⟩) 32 32 (sumF (xs ++ ys)) _ (by decide) (sumF_bytes _) (y10.below hHeld.2.2.2)).mono ?_
    rintro e wq ⟨rfl, hbq⟩
    try go_wp2_with fail
    refine hK.out _ _ ⟨range_below hbq hHeld.1, range_below hbq hHeld.2.1, range_below hbq hHeld.2.2.1, below_then hHeld.2.2.2 hHeld.2.2.2.size hbq⟩ (fun hHeld' => ?_)
    clear hK K hbq hHeld
    have hHeld := hHeld'
    clear hHeld'
    try (simp only [Act.put, List.setIfInBounds_toArray, List.set_cons_zero, List.set_cons_succ])
    refine wpAnyH_take (i := 13) (oi := ⟨some 43, .binOp .eql 25 (.tmp 39) (.tmp 42) 25, _, _, _, _⟩) (v := (.bool true)) rfl (by kernel_rfl) (by kernel_rfl) (by kernel_rfl) (fun _ _ _ h => h) (Or.inl ⟨by rfl, by intro w hSw; (try dsimp only at hSw); go_simp⟩) (by assumption) ?_
    simp only [Act.put, List.setIfInBounds_toArray, List.set_cons_zero, List.set_cons_succ]
    refine wpAnyH_take (i := 14) (oi := ⟨some 44, .pick (.tmp 36) (.tmp 43) (.const (.bool false)), _, _, _, _⟩) (v := (.bool true)) rfl (by kernel_rfl) (by kernel_rfl) (by kernel_rfl) (fun _ _ _ h => h) (Or.inl ⟨by rfl, by intro w hSw; (try dsimp only at hSw); go_simp⟩) (by assumption) ?_
    simp only [Act.put, List.setIfInBounds_toArray, List.set_cons_zero, List.set_cons_succ]
    refine wpAnyH_take (i := 15) (oi := ⟨some 6, .assign (.tmp 44), _, _, _, _⟩) (v := (.bool true)) rfl (by kernel_rfl) (by kernel_rfl) (by kernel_rfl) (fun _ _ _ h => h) (Or.inl ⟨by rfl, by intro w hSw; (try dsimp only at hSw); go_simp⟩) (by assumption) ?_
    simp only [Act.put, List.setIfInBounds_toArray, List.set_cons_zero, List.set_cons_succ]
    refine wpAnyH_done (by kernel_rfl) ?_ _
    refine NoPanic.normal ?_
    have hbf := below_then hb8 hb8.size hHeld.2.2.2
    clear q1 q2 u1 u2 i1 i2 i3 hHeld y1 y2 y7 y8 y10
    go_wp2
    go_ret
    exact ⟨rfl, hbf⟩

/-! ### the row -/
open Go.ChangeShapes Go.WideShapes Go.ChangeAt
theorem shaDoubles_lifted (os : Os) (started : os.Started) (H : Type) (enc : TypeId × Value → H) :
    ReturnsInHanded {} Tryd.checked os 5 .any (fun w args => (Rows.shaDoublesSpec.pre enc Tryd.prog Tryd.f5 [] false w args ∧ laidMetH Tryd.prog laidSha w) ∧ sizedMet enc Tryd.prog Tryd.f5 (OpenSpec.ofChange Rows.shaDoublesSpec) false w args)
      (Rows.shaDoublesSpec.post enc Tryd.prog Tryd.f5 false true false false) := by
  refine returnsInHanded_of_change_and (C := Tryd.checked) (X := fun w _ => laidMetH Tryd.prog laidSha w) (fun _ _ _ hh h => h.of_heap hh) own started (by kernel_rfl) Tryd.func5
    (ChangeSpec.witness_shaped (enc := enc) (C := Tryd.checked) (os := os) (X := fun w _ => laidMetH Tryd.prog laidSha w) false (World.doorLaid Tryd.prog 4000 os) #[.slice none 0 0, (Value.agg (Array.replicate 32 (.int .u8 0))), (Value.agg (Array.replicate 32 (.int .u8 0)))] 8 rfl (World.shaped_of_RefB (by kernel_rfl) (by kernel_rfl)) (by kernel_rfl) (by kernel_rfl) (by kernel_rfl) (door_met os _)) ?_
  intro W base args ds gs before hval0 hW _ _ hLaid _
  have hval : ∀ (j : Nat) t v, Tryd.f5.params[j]? = some t → args[j]? = some v → Value.okWide Tryd.prog W .any base t v := hval0
  have hW' := hW
  obtain ⟨p, q, hA0, _, _, _, _⟩ := hW
  have hA : DataW.TrodAll enc Tryd.prog W 0 (fun _ => true) true Tryd.f5.params.toList args.toList ds p := hA0
  rw [Tryd.params5] at hA hval
  obtain ⟨v0, vs0, d0, ds0, p0, q0, hargs, rfl, rfl, h0, r0⟩ := trodAll_cons hA
  obtain ⟨v1, vs1, d1, ds1, p1, q1, rfl, rfl, rfl, h1, r1⟩ := trodAll_cons r0
  obtain ⟨v2, vs2, d2, ds2, p2, q2, rfl, rfl, rfl, h2, r2⟩ := trodAll_cons r1
  obtain ⟨rfl, rfl, rfl⟩ := trodAll_nil r2
  obtain rfl : args = #[v0, v1, v2] := by cases args; simp_all
  obtain ⟨A0, n0, c0, a0, rfl, k0, m0, w0⟩ := open_slice Tryd.underlying22 (by kernel_rfl) (came_int Tryd.underlying5 (by kernel_rfl)) (hval 0 22 v0 rfl rfl) h0
  obtain ⟨a1, l1, b1, rfl⟩ := open_hash Tryd.underlying25 Tryd.underlying5 (by kernel_rfl) (by kernel_rfl) (hval 1 25 v1 rfl rfl) h1
  obtain ⟨a2, l2, b2, rfl⟩ := open_hash Tryd.underlying25 Tryd.underlying5 (by kernel_rfl) (by kernel_rfl) (hval 2 25 v2 rfl rfl) h2
  refine (shaDoubles_walk W (tabs_of_laid hLaid) A0 n0 c0 a0 k0 m0 w0 a1 l1 b1 a2 l2 b2).mono fun e W' ⟨he, bel⟩ => ⟨_, he, ?_⟩
  exact law_post (tb := 4) laidOut (by kernel_rfl) Tryd.underlying4 rfl rfl (fun ds h => match ds, h with | [d0, d1, d2], _ => rfl) hW' bel
theorem shaDoubles_holds : Rows.ShaDoublesSaid :=
  OpenClaim.holds_of_wide 5 Tryd.f5 rfl rfl rfl rfl rfl rfl rfl ⟨rfl, rfl, rfl, rfl, rfl⟩ rfl rfl rfl rfl rfl (by kernel_rfl) Tryd.func5 (by kernel_rfl)
    (of_decide_eq_true (by kernel_rfl)) (by unfold Func.isWrapper; first | (rw [if_pos (by decide +kernel)]; kernel_rfl) | (rw [if_neg (by decide +kernel)]; exact ⟨rfl, rfl⟩))
    (fun os started H enc _ => shaDoubles_lifted os started H enc)
theorem shaDoubles_card_holds : Rows.ShaDoublesCardSaid :=
  Claim7.holds_tied_plain_at .later [] [.data, .data] true (true, "add6f9de5aa1b9c566b382fb5927ba360e32819176ecfaf204976d6425c6840b") false
    shaDoubles_holds (fun _ h => by cases h) (by kernel_rfl) (fun _ h => by cases h) shaDoubles_row_tie rfl ⟨rfl, rfl⟩ (by kernel_rfl) rfl
    (fun f fn hf hfn => by
      obtain rfl : f = 5 := Option.some.inj ((show Tryd.prog.funcNamed "tailrace/tailracelaw03.ShaDoubles" = some 5 by kernel_rfl).symm.trans hf) |>.symm
      obtain rfl : fn = Tryd.f5 := (Option.some.inj (Tryd.func5.symm.trans hfn)).symm
      exact ⟨by kernel_rfl, fun j t ht => by
        rw [Tryd.params5] at ht
        have hall : ∀ t ∈ [22, 25, 25], Tryd.prog.wantsStandIn t = false := by
          intro t ht
          simp only [List.mem_cons, List.not_mem_nil, or_false] at ht
          rcases ht with rfl | rfl | rfl <;> kernel_rfl
        exact hall t (List.mem_of_getElem? (by simpa using ht))⟩)
    (by kernel_rfl)
#print axioms shaDoubles_card_holds
end Go.Proofs.YtjlkakggmfmfiaaDoor
