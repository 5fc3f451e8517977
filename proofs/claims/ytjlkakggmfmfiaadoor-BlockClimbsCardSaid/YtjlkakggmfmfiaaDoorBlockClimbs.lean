/- tailracelaw08.BlockClimbs: whatever digest, place and branch, with the right tables, it returns true: the digest comes to the root that the pairs make, step by step. -/
import Derived.Test.YtjlkakggmfmfiaaDoorClimb
import Derived.Test.YtjlkakggmfmfiaaDoorDoor
import Derived.Test.YtjlkakggmfmfiaaDoorTie
import Derived.Test.YtjlkakggmfmfiaaDoorCards
import Derived.SevenTiedAt
set_option maxRecDepth 100000
set_option linter.unusedVariables false
namespace Go.Proofs.YtjlkakggmfmfiaaDoor
open Go Go.RowKit
theorem wf64 {x : Int} (h : (Lit.int .i64 x).wf = true) : -9223372036854775808 ≤ x ∧ x ≤ 9223372036854775807 := by
  simp [Lit.wf, IntKind.min, IntKind.max, IntKind.signed, IntKind.bits] at h
  omega
theorem half_pow (a : Int) (k : Nat) : a / 2 ^ k / 2 = a / 2 ^ (k + 1) := by rw [Int.pow_succ, Int.ediv_ediv_of_nonneg (Int.le_of_lt (Int.pow_pos (by decide)))]
set_option maxHeartbeats 2000000 in
theorem blockClimbs_walk (w : World) (hT : Tabs w) (id : List Int) (hl1 : id.length = 32) (hb1 : Bytes id) (at_ : Int) (hwf : (Lit.int .i64 at_).wf = true) (A : Option Addr) (n c : Nat) (br : List (List Int)) (hnc : n ≤ c) (hcm : c ≤ maxLen) (hC0 : hashK.C (· < w.heap.size) w A n br) :
    Calls Tryd.prog 7 #[.agg (nums .u8 id).toArray, .int .i64 at_, .slice A n c] w fun e w' => e = .returned (.bool true) ∧ Below w.heap.size w w' := by
  have hC := HC.of hC0
  have hl := hC.len
  have hd := HC.digs hC
  obtain ⟨ha0, ha1⟩ := wf64 hwf
  have u2 := Tryd.underlying25
  have g1 := heap_alloc_new w (.cells (nums .u8 id).toArray 25)
  have hb0 : Below w.heap.size w (w.alloc (.cells (nums .u8 id).toArray 25)) := (Below.refl _ _).alloc (Nat.le_refl _) _
  have hT0 := hT.below hb0
  have HL := Lib.hid hl
  clear hl hC0 hwf
  go_enter Tryd.func7, Tryd.ntmps7
  go_wp2_with fail
  refine (head08_calls _ hT0).mono ?_
  rintro e w1 ⟨rfl, hbh⟩
  have hT1 := hT0.below hbh
  have g11 := heap_below hbh g1
  have b01 := below_then hb0 hb0.size hbh
  clear hb0 g1 hT0 hbh
  by_cases hn : 20 < n
  · have hn' : (20 : Int) < (n : Int) := by omega
    go_wp2
    go_ret
    exact ⟨rfl, b01⟩
  · have hn' : ¬ (20 : Int) < (n : Int) := by omega
    have b1s := b01.size
    have hlt1 := heap_lt g11
    go_upto_region 6 with (first | (refine wpList_load_row rfl 25 (.tmp 3) rfl w.heap.size rfl 25 _ _ _ g11 u2 rfl (info_h _ hl1) ?_) | (refine wpList_store_any rfl 25 (.tmp 7) (.tmp 15) rfl w1.heap.size (nums .u8 id).toArray rfl rfl 25 (nums .u8 zeros32).toArray (heap_alloc_new _ _) (info_h _ hl1) (size_h _ hl1) (nums_all _ _) ?_; intro w2 g7 ht2))
    have hb2 : Below w1.heap.size w1 w2 := ht2.below ((Below.refl w1.heap.size w1).alloc (Nat.le_refl _) _) (Nat.le_refl _)
    have hT2 := hT1.below hb2
    have g12 := heap_below hb2 g11
    have b02 := below_then b01 b01.size hb2
    clear ht2 hb2 g11 hT1 b01
    go_wp2
    go_loopw [18] (fun v18 wr => ∃ (k : Nat) (cur : List Int), k ≤ n ∧ v18 = .int .i64 k ∧ Dig cur ∧ Hid (climbF cur (at_ / 2 ^ k) (br.drop k) = climbF id at_ br) ∧ Below w.heap.size w wr ∧ wr.heap[w.heap.size]? = some (.cells (nums .u8 id).toArray 25) ∧ wr.heap[w1.heap.size]? = some (.cells (nums .u8 cur).toArray 25)) (fun v _ => n - (intOf v).toNat)
    case atStart => exact ⟨0, id, by omega, rfl, ⟨hl1, hb1⟩, Lib.hid (by simp), b02, g12, g7⟩
    case round =>
      clear g12 g7 hT2
      obtain ⟨k, cur, hk, rfl, hcur, HR, hB, g3, g7⟩ := hrel
      have hTr := hT.below hB
      by_cases hlt : k < n
      · have hlt' : (k : Int) < (n : Int) := by omega
        have hk0 : (0 : Int) ≤ (k : Int) := by omega
        have hx := dg_dig hd k (by rw [HL.out]; exact hlt)
        obtain ⟨b, o, rfl, hbw, hr⟩ := HC.addr hC (by omega)
        have rx := range_below hB (hr k hlt)
        have i1 := ilen_hash (dg br k) hx.1
        have hst := climb_step cur (at_ / 2 ^ k) br k (by rw [HL.out]; exact hlt)
        rw [half_pow] at hst
        have HS := Lib.hid hst
        have HRR := Lib.hid hr
        have hmask := i64_mask1 (at_ / 2 ^ k)
        clear hr hst
        have hl2 := hcur.1
        go_upto_region 9 with (first | (refine wpList_load_mid rfl 25 (.tmp 21) rfl b (o + k * 32) rfl (nums .u8 (dg br k)) _ rx u2 rfl i1 ?_) | (refine wpList_store_any rfl 25 (.tmp 9) (.tmp 22) rfl wr.heap.size (nums .u8 (dg br k)).toArray rfl rfl 25 (nums .u8 zeros32).toArray (heap_alloc_new _ _) (info_h _ hx.1) (size_h _ hx.1) (nums_all _ _) ?_; intro w3 h9 ht9))
        have hb3 : Below wr.heap.size wr w3 := ht9.below ((Below.refl wr.heap.size wr).alloc (Nat.le_refl _) _) (Nat.le_refl _)
        have hT3 := hTr.below hb3
        have g33 := heap_below hb3 g3
        have g73 := heap_below hb3 g7
        have hB3 := below_then hB hB.size hb3
        clear ht9 hb3 rx g3 g7 hTr hB HRR
        by_cases ho : at_ / 2 ^ k % 2 = 1
        · have ho' : (at_ / 2 ^ k % 2 == 1) = true := by rw [ho]; rfl
          rw [if_pos ho] at HS
          clear ho
          have hPl := pairF_length (dg br k) cur
          go_wp2_with (first | (refine wpList_load_row rfl 25 (.tmp 9) rfl wr.heap.size rfl 25 _ _ _ h9 u2 rfl (info_h _ hx.1) ?_) | (refine wpList_load_row rfl 25 (.tmp 7) rfl w1.heap.size rfl 25 _ _ _ g73 u2 rfl (info_h _ hl2) ?_))
          refine (pair_calls (dg br k) cur hx.1 hl2 hx.2 hcur.2 _ hT3).mono ?_
          rintro e w4 ⟨rfl, hb4⟩
          have g34 := heap_below hb4 g33
          have g74 := heap_below hb4 g73
          have hB4 := below_then hB3 hB3.size hb4
          clear hb4 g33 g73 hT3 hB3 h9
          have hsz : (nums .u8 cur).toArray.size = (nums .u8 (pairF (dg br k) cur)).toArray.size := by rw [nums_size, nums_size, hl2, hPl]
          go_wp2_with (first | (refine wpList_store_any rfl 25 (.tmp 7) (.tmp 31) rfl w1.heap.size (nums .u8 (pairF (dg br k) cur)).toArray rfl rfl 25 (nums .u8 cur).toArray g74 (info_h _ hPl) hsz (nums_all _ _) ?_; intro w5 h5 ht5))
          have hB5 : Below w.heap.size w w5 := ht5.below hB4 b1s
          have g35 := ht5.keep g34 (by omega)
          go_roundw
          case rel => exact ⟨k + 1, _, by omega, by go_num, dig_pair _ _, Lib.hid (by rw [← HS.out, HR.out]), hB5, g35, h5⟩
          case measure => simp [intOf]; omega
        · have ho' : (at_ / 2 ^ k % 2 == 1) = false := by rw [beq_eq_false_iff_ne]; exact ho
          rw [if_neg ho] at HS
          clear ho
          have hPl := pairF_length cur (dg br k)
          go_wp2_with (first | (refine wpList_load_row rfl 25 (.tmp 9) rfl wr.heap.size rfl 25 _ _ _ h9 u2 rfl (info_h _ hx.1) ?_) | (refine wpList_load_row rfl 25 (.tmp 7) rfl w1.heap.size rfl 25 _ _ _ g73 u2 rfl (info_h _ hl2) ?_))
          refine (pair_calls cur (dg br k) hl2 hx.1 hcur.2 hx.2 _ hT3).mono ?_
          rintro e w4 ⟨rfl, hb4⟩
          have g34 := heap_below hb4 g33
          have g74 := heap_below hb4 g73
          have hB4 := below_then hB3 hB3.size hb4
          clear hb4 g33 g73 hT3 hB3 h9
          have hsz : (nums .u8 cur).toArray.size = (nums .u8 (pairF cur (dg br k))).toArray.size := by rw [nums_size, nums_size, hl2, hPl]
          go_wp2_with (first | (refine wpList_store_any rfl 25 (.tmp 7) (.tmp 34) rfl w1.heap.size (nums .u8 (pairF cur (dg br k))).toArray rfl rfl 25 (nums .u8 cur).toArray g74 (info_h _ hPl) hsz (nums_all _ _) ?_; intro w5 h5 ht5))
          have hB5 : Below w.heap.size w w5 := ht5.below hB4 b1s
          have g35 := ht5.keep g34 (by omega)
          go_roundw
          case rel => exact ⟨k + 1, _, by omega, by go_num, dig_pair _ _, Lib.hid (by rw [← HS.out, HR.out]), hB5, g35, h5⟩
          case measure => simp [intOf]; omega
      · have hlt' : ¬ (k : Int) < (n : Int) := by omega
        have hdn := climb_done cur (at_ / 2 ^ k) br k (by rw [HL.out]; omega)
        have hfin : climbF id at_ br = cur := by rw [← HR.out, hdn]
        have hl2 := hcur.1
        have q1 := eq_digests (climbF id at_ br) cur (by rw [hfin]; exact hl2) hl2 hfin
        have y1 := range_block g3
        have y2 := range_block g7
        have i1 := ilen_hash id hl1
        have i2 := ilen_hash cur hl2
        clear HR hdn hfin g3 g7
        go_upto_region 13 with fail
        obtain rfl : k = n := by omega
        refine wp_region_noPanic ?_
        refine wp_region_held_drew (S := fun w' => w'.rangeAt w.heap.size 0 (nums .u8 id) ∧ w'.rangeAt w1.heap.size 0 (nums .u8 cur) ∧ Below wr.heap.size wr w') (by kernel_rfl) ⟨y1, y2, Below.drew (Below.refl _ _)⟩ (fun hHeld => ?_)
        -- 0: law.go:113 slot 36 := Op.load 25 t3
        refine wpAnyH_take (i := 0) (oi := ⟨some 36, _, _, _, _, _⟩) rfl (by kernel_rfl) (by kernel_rfl) (by kernel_rfl) (fun _ _ _ h => h) (yieldsIf_load_mid (by rfl) _ _ rfl _ _ rfl (nums .u8 id) _ (fun _ h => h.1) u2 rfl i1) (by assumption) ?_
        simp only [Act.put, List.setIfInBounds_toArray, List.set_cons_zero, List.set_cons_succ]
        -- 1: law.go:113 slot 37 := Op.move t1
        refine wpAnyH_take (i := 1) (oi := ⟨some 37, _, _, _, _, _⟩) (v := ?_) rfl (by kernel_rfl) (by kernel_rfl) (by kernel_rfl) (fun _ _ _ h => h) (Or.inl ⟨by rfl, ?_⟩) (by assumption) ?_
        rotate_left 1
        · intro w hSw; (try dsimp only at hSw); go_simp; try with_reducible rfl
        simp only [Act.put, List.setIfInBounds_toArray, List.set_cons_zero, List.set_cons_succ]
        -- 2: law.go:113 slot 38 := Op.move t2
        refine wpAnyH_take (i := 2) (oi := ⟨some 38, _, _, _, _, _⟩) (v := ?_) rfl (by kernel_rfl) (by kernel_rfl) (by kernel_rfl) (fun _ _ _ h => h) (Or.inl ⟨by rfl, ?_⟩) (by assumption) ?_
        rotate_left 1
        · intro w hSw; (try dsimp only at hSw); go_simp; try with_reducible rfl
        simp only [Act.put, List.setIfInBounds_toArray, List.set_cons_zero, List.set_cons_succ]
        -- 4: law.go:113 slot 40 := Op.load 25 t7
        refine wpAnyH_take (i := 4) (oi := ⟨some 40, _, _, _, _, _⟩) rfl (by kernel_rfl) (by kernel_rfl) (by kernel_rfl) (fun _ _ _ h => h) (yieldsIf_load_mid (by rfl) _ _ rfl _ _ rfl (nums .u8 cur) _ (fun _ h => h.2.1) u2 rfl i2) (by assumption) ?_
        simp only [Act.put, List.setIfInBounds_toArray, List.set_cons_zero, List.set_cons_succ]
        -- 3: law.go:113 slot 39 := Op.call { value (Operand.func 31), args := #[t36, t37, t38], argTypes := #[25, 3, 38] }
        refine wpAnyH_ready (rs := [3]) (by kernel_rfl) (by simp) ?_
        refine AllReadyH.cons (o := ⟨some 39, _, _, _, _, _⟩) rfl (fun K hK => ?_) AllReadyH.nil
        go_simp
        refine (climb_calls _ (hTr.below hHeld.2.2) id ⟨hl1, hb1⟩ at_ ha0 ha1 A k c br hnc (by omega) (RK.C.below hC (below_then hB hB.size hHeld.2.2))).mono ?_
        rintro e w4 ⟨rfl, hbq⟩
        try go_wp2_with fail
        refine hK.out _ _ ⟨range_below hbq hHeld.1, range_below hbq hHeld.2.1, below_then hHeld.2.2 hHeld.2.2.size hbq⟩ (fun hHeld' => ?_)
        clear hHeld
        have hHeld := hHeld'
        clear hHeld'
        clear hbq
        clear hK K
        try (simp only [Act.put, List.setIfInBounds_toArray, List.set_cons_zero, List.set_cons_succ])
        -- 5: law.go:113 slot 41 := Op.binOp BinOp.eql 25 t39 t40 25
        refine wpAnyH_take (i := 5) (oi := ⟨some 41, _, _, _, _, _⟩) (v := ?_) rfl (by kernel_rfl) (by kernel_rfl) (by kernel_rfl) (fun _ _ _ h => h) (Or.inl ⟨by rfl, ?_⟩) (by assumption) ?_
        rotate_left 1
        · intro w hSw; (try dsimp only at hSw); go_simp; try with_reducible rfl
        simp only [Act.put, List.setIfInBounds_toArray, List.set_cons_zero, List.set_cons_succ]
        -- 6: law.go:113 slot 6 := Op.assign t41
        refine wpAnyH_take (i := 6) (oi := ⟨some 6, _, _, _, _, _⟩) (v := ?_) rfl (by kernel_rfl) (by kernel_rfl) (by kernel_rfl) (fun _ _ _ h => h) (Or.inl ⟨by rfl, ?_⟩) (by assumption) ?_
        rotate_left 1
        · intro w hSw; (try dsimp only at hSw); go_simp; try with_reducible rfl
        simp only [Act.put, List.setIfInBounds_toArray, List.set_cons_zero, List.set_cons_succ]
        refine wpAnyH_done (by kernel_rfl) ?_ _
        refine NoPanic.normal ?_
        have hbf := below_then hB hB.size hHeld.2.2
        clear q1 hHeld y1 y2
        go_wp2
        go_ret
        exact ⟨rfl, hbf⟩

/-! ### the row -/
open Go.ChangeShapes Go.WideShapes Go.ChangeAt
theorem blockClimbs_lifted (os : Os) (started : os.Started) (H : Type) (enc : TypeId × Value → H) :
    ReturnsInHanded {} Tryd.checked os 7 .any (fun w args => (Rows.blockClimbsSpec.pre enc Tryd.prog Tryd.f7 [] false w args ∧ laidMetH Tryd.prog laidSha w) ∧ sizedMet enc Tryd.prog Tryd.f7 (OpenSpec.ofChange Rows.blockClimbsSpec) false w args)
      (Rows.blockClimbsSpec.post enc Tryd.prog Tryd.f7 false true false false) := by
  refine returnsInHanded_of_change_and (C := Tryd.checked) (X := fun w _ => laidMetH Tryd.prog laidSha w) (fun _ _ _ hh h => h.of_heap hh) own started (by kernel_rfl) Tryd.func7
    (ChangeSpec.witness_shaped (enc := enc) (C := Tryd.checked) (os := os) (X := fun w _ => laidMetH Tryd.prog laidSha w) false (World.doorLaid Tryd.prog 4000 os) #[(Value.agg (Array.replicate 32 (.int .u8 0))), .int .i64 0, .slice none 0 0] 8 rfl (World.shaped_of_RefB (by kernel_rfl) (by kernel_rfl)) (by kernel_rfl) (by kernel_rfl) (by kernel_rfl) (door_met os _)) ?_
  intro W base args ds gs before hval0 hW _ _ hLaid _
  have hval : ∀ (j : Nat) t v, Tryd.f7.params[j]? = some t → args[j]? = some v → Value.okWide Tryd.prog W .any base t v := hval0
  have hW' := hW
  obtain ⟨p, q, hA0, _, _, _, _⟩ := hW
  have hA : DataW.TrodAll enc Tryd.prog W 0 (fun _ => true) true Tryd.f7.params.toList args.toList ds p := hA0
  rw [Tryd.params7] at hA hval
  obtain ⟨v0, vs0, d0, ds0, p0, q0, hargs, rfl, rfl, h0, r0⟩ := trodAll_cons hA
  obtain ⟨v1, vs1, d1, ds1, p1, q1, rfl, rfl, rfl, h1, r1⟩ := trodAll_cons r0
  obtain ⟨v2, vs2, d2, ds2, p2, q2, rfl, rfl, rfl, h2, r2⟩ := trodAll_cons r1
  obtain ⟨rfl, rfl, rfl⟩ := trodAll_nil r2
  obtain rfl : args = #[v0, v1, v2] := by cases args; simp_all
  obtain ⟨a0, l0, b0, rfl⟩ := open_hash Tryd.underlying25 Tryd.underlying5 (by kernel_rfl) (by kernel_rfl) (hval 0 25 v0 rfl rfl) h0
  obtain ⟨a1, rfl, rfl, rfl, w1⟩ := open_int Tryd.underlying3 (hval 1 3 v1 rfl rfl) h1
  obtain ⟨A2, n2, c2, a2, rfl, k2, m2, w2⟩ := open_slice Tryd.underlying38 (by kernel_rfl) (came_hash Tryd.underlying25 Tryd.underlying5 (by kernel_rfl) (by kernel_rfl)) (hval 2 38 v2 rfl rfl) h2
  refine (blockClimbs_walk W (tabs_of_laid hLaid) a0 l0 b0 a1 w1 A2 n2 c2 a2 k2 m2 w2).mono fun e W' ⟨he, bel⟩ => ⟨_, he, ?_⟩
  exact law_post (tb := 4) laidOut (by kernel_rfl) Tryd.underlying4 rfl rfl (fun ds h => match ds, h with | [d0, d1, d2], _ => rfl) hW' bel
theorem blockClimbs_holds : Rows.BlockClimbsSaid :=
  OpenClaim.holds_of_wide 7 Tryd.f7 rfl rfl rfl rfl rfl rfl rfl ⟨rfl, rfl, rfl, rfl, rfl⟩ rfl rfl rfl rfl rfl (by kernel_rfl) Tryd.func7 (by kernel_rfl)
    (of_decide_eq_true (by kernel_rfl)) (by unfold Func.isWrapper; first | (rw [if_pos (by decide +kernel)]; kernel_rfl) | (rw [if_neg (by decide +kernel)]; exact ⟨rfl, rfl⟩))
    (fun os started H enc _ => blockClimbs_lifted os started H enc)
theorem blockClimbs_card_holds : Rows.BlockClimbsCardSaid :=
  Claim7.holds_tied_plain_at .later [] [.data, .data] true (true, "add6f9de5aa1b9c566b382fb5927ba360e32819176ecfaf204976d6425c6840b") false
    blockClimbs_holds (fun _ h => by cases h) (by kernel_rfl) (fun _ h => by cases h) blockClimbs_row_tie rfl ⟨rfl, rfl⟩ (by kernel_rfl) rfl
    (fun f fn hf hfn => by
      obtain rfl : f = 7 := Option.some.inj ((show Tryd.prog.funcNamed "tailrace/tailracelaw08.BlockClimbs" = some 7 by kernel_rfl).symm.trans hf) |>.symm
      obtain rfl : fn = Tryd.f7 := (Option.some.inj (Tryd.func7.symm.trans hfn)).symm
      exact ⟨by kernel_rfl, fun j t ht => by
        rw [Tryd.params7] at ht
        have hall : ∀ t ∈ [25, 3, 38], Tryd.prog.wantsStandIn t = false := by
          intro t ht
          simp only [List.mem_cons, List.not_mem_nil, or_false] at ht
          rcases ht with rfl | rfl | rfl <;> kernel_rfl
        exact hall t (List.mem_of_getElem? (by simpa using ht))⟩)
    (by kernel_rfl)
#print axioms blockClimbs_card_holds
end Go.Proofs.YtjlkakggmfmfiaaDoor
