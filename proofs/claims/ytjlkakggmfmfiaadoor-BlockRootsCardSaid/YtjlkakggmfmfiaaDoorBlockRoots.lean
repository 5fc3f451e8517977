/- tailracelaw08.BlockRoots: whatever digests, with the right tables, it returns true: the root is that of the document's way, row by row. -/
import Derived.Test.YtjlkakggmfmfiaaDoorRoot08
import Derived.Test.YtjlkakggmfmfiaaDoorHead08
import Derived.Test.YtjlkakggmfmfiaaDoorDoor
import Derived.Test.YtjlkakggmfmfiaaDoorTie
import Derived.Test.YtjlkakggmfmfiaaDoorCards
import Derived.SevenTiedAt
set_option maxRecDepth 100000
set_option linter.unusedVariables false
namespace Go.Proofs.YtjlkakggmfmfiaaDoor
open Go Go.RowKit
theorem eq_digests_any (xs ys : List Int) (hx : xs.length = 32) (hy : ys.length = 32) (W : World) : (Op.equalIn 10000 25 (.agg (nums .u8 xs).toArray) (.agg (nums .u8 ys).toArray)).run Tryd.prog W = .ok (xs == ys) W :=
  run_equalIn_nums (P := Tryd.prog) W 9998 25 5 32 .u8 .u8 Tryd.underlying25 Tryd.underlying5 info_u8 xs ys hx hy
set_option maxHeartbeats 2000000 in
theorem blockRoots_walk (w : World) (hT : Tabs w) (A : Option Addr) (n c : Nat) (ids : List (List Int)) (hnc : n ≤ c) (hcm : c ≤ maxLen) (hC0 : hashK.C (· < w.heap.size) w A n ids) :
    Calls Tryd.prog 6 #[.slice A n c] w fun e w' => e = .returned (.bool true) ∧ Below w.heap.size w w' := by
  have hC := HC.of hC0
  have hl := hC.len
  have hd := HC.digs hC
  have hR := (rootF_dig _ ids (Nat.le_refl _) hd).1
  have hU2 := Tryd.underlying25
  have HL := Lib.hid hl
  clear hl hC0
  go_enter Tryd.func6, Tryd.ntmps6
  go_wp2_with fail
  refine (head08_calls _ hT).mono ?_
  rintro e w1 ⟨rfl, b01⟩
  have hT1 := hT.below b01
  by_cases hn : 12 < n
  · have hn' : (12 : Int) < (n : Int) := by omega
    go_wp2
    go_ret
    exact ⟨rfl, b01⟩
  · have hn' : ¬ (12 : Int) < (n : Int) := by omega
    have hC1 := RK.C.below hC b01
    have hE : HOwn (w1.alloc (.cells #[] 25)) w1.heap.size 25 (.slice (some ⟨w1.heap.size, 0, none⟩) 0 0) 0 [] := RK.Own.empty hashK _ 25 (Nat.le_refl _)
    have hCa : HC (w1.alloc (.cells #[] 25)) A n ids := RK.C.below hC1 ((Below.refl _ _).alloc (Nat.le_refl _) _)
    go_upto_region 6 with (first | (refine wpList_appHs rfl (.tmp 11) (.tmp 12) 38 25 rfl Tryd.underlying38 zinfo_hash w1.heap.size _ 0 [] rfl hE A n c ids rfl hCa n ids (Nat.zero_add _) rfl (by omega) (by simp) ?_; intro A2 c2 w2 hO2 hg2 hat2))
    have b12 : Below w1.heap.size w1 w2 := ((Below.refl _ _).alloc (Nat.le_refl _) _).grown hg2 (by simp) (fun k hk => by have := Option.some.inj (show some w1.heap.size = some k from hk); omega)
    have hT2 := hT1.below b12
    have hC2 := RK.C.below hC1 b12
    have hM2 := HOwn.C hO2
    have hle2 := (RK.Own.le_ hO2).1
    have b02 := below_then b01 b01.size b12
    clear hE hCa hg2 hat2 hO2 b12 hC1 b01 hT1
    go_wp2_with fail
    refine (blkroot_calls _ hT2 A2 n c2 ids hle2 (by omega) hM2).mono ?_
    rintro e w3 ⟨rfl, b23⟩
    have hC3 := RK.C.below hC2 b23
    have hM3 := RK.C.below hM2 b23
    have b03 := below_then b02 b02.size b23
    have hT3 := hT2.below b23
    clear hC2 hM2 b23 b02 hT2
    go_upto_region 7 with (first | (refine wpList_store_any rfl 25 (.tmp 4) (.tmp 15) rfl w3.heap.size (nums .u8 (rootF ids)).toArray rfl rfl 25 (nums .u8 zeros32).toArray (heap_alloc_new _ _) (info_h _ hR) (size_h _ hR) (nums_all _ _) ?_; intro w4 g4 ht4))
    have b34 : Below w3.heap.size w3 w4 := ht4.below ((Below.refl w3.heap.size w3).alloc (Nat.le_refl _) _) (Nat.le_refl _)
    have hC4 := RK.C.below hC3 b34
    have hM4 := RK.C.below hM3 b34
    have b04 := below_then b03 b03.size b34
    have hT4 := hT3.below b34
    clear ht4 hC3 hM3 b34 b03 hT3
    go_wp2
    go_loopw [18] (fun v wr => ∃ k : Nat, k ≤ n ∧ v = .int .i64 k ∧ Below w4.heap.size w4 wr) (fun v _ => n - (intOf v).toNat)
    case atStart => exact ⟨0, by omega, rfl, Below.refl _ _⟩
    case round =>
      obtain ⟨k, hk, rfl, hB⟩ := hrel
      by_cases hlt : k < n
      · have hlt' : (k : Int) < (n : Int) := by omega
        have hk0 : (0 : Int) ≤ (k : Int) := by omega
        have hx := (dg_dig hd k (by rw [HL.out]; exact hlt)).1
        obtain ⟨b, o, rfl, hbw, hr⟩ := HC.addr (RK.C.below hM4 hB) (by omega)
        obtain ⟨b2, o2, rfl, hbw2, hr2⟩ := HC.addr (RK.C.below hC4 hB) (by omega)
        have rx := hr k hlt
        have ry := hr2 k hlt
        have i1 := ilen_hash (dg ids k) hx
        have q1 := eq_digests (dg ids k) (dg ids k) hx hx rfl
        clear hr hr2
        go_upto_region 10 with fail
        refine wp_region_quiet_lit (by kernel_rfl) (by kernel_rfl) ?_
        repeat (any_goals (first | (refine wpQuiet_load_mid rfl 25 (.tmp 23) rfl b (o + k * 32) rfl (nums .u8 (dg ids k)) _ rx hU2 rfl i1 ?_) | (refine wpQuiet_load_mid rfl 25 (.tmp 27) rfl b2 (o2 + k * 32) rfl (nums .u8 (dg ids k)) _ ry hU2 rfl i1 ?_) | go_big_quiet_step (fail) | quiet_step (fail)))
        refine wpQuiet_nil ?_
        rintro _ ⟨nq, rfl⟩
        clear q1
        go_wp2
        go_roundw
        case rel => exact ⟨k + 1, by omega, by go_num, below_drewN hB _⟩
        case measure => simp [intOf]; omega
      · have hlt' : ¬ (k : Int) < (n : Int) := by omega
        obtain rfl : k = n := by omega
        have hTr := hT4.below hB
        have hCr := RK.C.below hC4 hB
        have g4r := range_block (heap_below hB g4)
        have hB0 := below_then b04 b04.size hB
        have i1 := ilen_hash (rootF ids) hR
        have q1 := eq_digests (rootF ids) (rootF ids) hR hR rfl
        clear g4 hT4 hC4 hM4
        go_upto_region 13 with fail
        refine wp_region_noPanic ?_
        refine wp_region_held_drew (S := fun w' => w'.rangeAt w3.heap.size 0 (nums .u8 (rootF ids)) ∧ Below wr.heap.size wr w') (by kernel_rfl) ⟨g4r, Below.drew (Below.refl _ _)⟩ (fun hHeld => ?_)
        -- 0: law.go:70 slot 31 := Op.load 25 t4
        refine wpAnyH_take (i := 0) (oi := ⟨some 31, _, _, _, _, _⟩) rfl (by kernel_rfl) (by kernel_rfl) (by kernel_rfl) (fun _ _ _ h => h) (yieldsIf_load_mid (by rfl) _ _ rfl _ _ rfl (nums .u8 (rootF ids)) _ (fun _ h => h.1) hU2 rfl i1) (by assumption) ?_
        simp only [Act.put, List.setIfInBounds_toArray, List.set_cons_zero, List.set_cons_succ]
        -- 2: law.go:70 slot 33 := Op.move t0
        refine wpAnyH_take (i := 2) (oi := ⟨some 33, _, _, _, _, _⟩) (v := ?_) rfl (by kernel_rfl) (by kernel_rfl) (by kernel_rfl) (fun _ _ _ h => h) (Or.inl ⟨by rfl, ?_⟩) (by assumption) ?_
        rotate_left 1
        · intro w hSw; (try dsimp only at hSw); go_simp; try with_reducible rfl
        simp only [Act.put, List.setIfInBounds_toArray, List.set_cons_zero, List.set_cons_succ]
        -- 1: law.go:70 slot 32 := Op.call { value (Operand.func 23), args := #[], argTypes := #[] }
        refine wpAnyH_ready (rs := [1]) (by kernel_rfl) (by simp) ?_
        refine AllReadyH.cons (o := ⟨some 32, _, _, _, _, _⟩) rfl (fun K hK => ?_) AllReadyH.nil
        go_simp
        refine (make_calls _).mono ?_
        rintro e w5 ⟨rfl, hbq⟩
        try go_wp2_with fail
        refine hK.out _ _ ⟨range_below hbq hHeld.1, below_then hHeld.2 hHeld.2.size hbq⟩ (fun hHeld' => ?_)
        clear hHeld
        have hHeld := hHeld'
        clear hHeld'
        clear hbq
        clear hK K
        try (simp only [Act.put, List.setIfInBounds_toArray, List.set_cons_zero, List.set_cons_succ])
        -- 3: law.go:70 slot 34 := Op.call { value (Operand.func 30), args := #[t33], argTypes := #[38] }
        refine wpAnyH_ready (rs := [3]) (by kernel_rfl) (by simp) ?_
        refine AllReadyH.cons (o := ⟨some 34, _, _, _, _, _⟩) rfl (fun K hK => ?_) AllReadyH.nil
        go_simp
        refine (raw_calls _ A k c ids hnc (by omega) (RK.C.below hCr hHeld.2)).mono ?_
        rintro e w6 ⟨A6, c6, rfl, hO6, hbq⟩
        try go_wp2_with fail
        refine hK.out _ _ ⟨range_below hbq hHeld.1, below_then hHeld.2 hHeld.2.size hbq⟩ (fun hHeld' => ?_)
        clear hHeld
        have hHeld := hHeld'
        clear hHeld'
        clear hbq
        have hM6 := HOwn.C hO6
        have hle6 := RK.Own.le_ hO6
        clear hO6
        clear hK K
        try (simp only [Act.put, List.setIfInBounds_toArray, List.set_cons_zero, List.set_cons_succ])
        -- 4: law.go:70 slot 35 := Op.call { value (Operand.func 29), args := #[t32, t34], argTypes := #[31, 41] }
        refine wpAnyH_ready (rs := [4]) (by kernel_rfl) (by simp) ?_
        refine AllReadyH.cons (o := ⟨some 35, _, _, _, _, _⟩) rfl (fun K hK => ?_) AllReadyH.nil
        go_simp
        refine (root08_calls _ A6 k c6 ids hle6.1 hle6.2 (by omega) hM6).mono ?_
        rintro e w7 ⟨rfl, hbq⟩
        try go_wp2_with fail
        refine hK.out _ _ ⟨range_below hbq hHeld.1, below_then hHeld.2 hHeld.2.size hbq⟩ (fun hHeld' => ?_)
        clear hHeld
        have hHeld := hHeld'
        clear hHeld'
        clear hbq hM6 hle6
        clear hK K
        try (simp only [Act.put, List.setIfInBounds_toArray, List.set_cons_zero, List.set_cons_succ])
        -- 5: law.go:70 slot 36 := Op.binOp BinOp.eql 25 t31 t35 25
        refine wpAnyH_take (i := 5) (oi := ⟨some 36, _, _, _, _, _⟩) (v := ?_) rfl (by kernel_rfl) (by kernel_rfl) (by kernel_rfl) (fun _ _ _ h => h) (Or.inl ⟨by rfl, ?_⟩) (by assumption) ?_
        rotate_left 1
        · intro w hSw; (try dsimp only at hSw); go_simp; try with_reducible rfl
        simp only [Act.put, List.setIfInBounds_toArray, List.set_cons_zero, List.set_cons_succ]
        -- 6: law.go:70 slot 2 := Op.assign t36
        refine wpAnyH_take (i := 6) (oi := ⟨some 2, _, _, _, _, _⟩) (v := ?_) rfl (by kernel_rfl) (by kernel_rfl) (by kernel_rfl) (fun _ _ _ h => h) (Or.inl ⟨by rfl, ?_⟩) (by assumption) ?_
        rotate_left 1
        · intro w hSw; (try dsimp only at hSw); go_simp; try with_reducible rfl
        simp only [Act.put, List.setIfInBounds_toArray, List.set_cons_zero, List.set_cons_succ]
        refine wpAnyH_done (by kernel_rfl) ?_ _
        refine NoPanic.normal ?_
        have hbf := below_then hB0 hB0.size hHeld.2
        clear q1 hHeld g4r
        go_wp2
        go_ret
        exact ⟨rfl, hbf⟩

/-! ### the row -/
open Go.ChangeShapes Go.WideShapes Go.ChangeAt
theorem blockRoots_lifted (os : Os) (started : os.Started) (H : Type) (enc : TypeId × Value → H) :
    ReturnsInHanded {} Tryd.checked os 6 .any (fun w args => (Rows.blockRootsSpec.pre enc Tryd.prog Tryd.f6 [] false w args ∧ laidMetH Tryd.prog laidSha w) ∧ sizedMet enc Tryd.prog Tryd.f6 (OpenSpec.ofChange Rows.blockRootsSpec) false w args)
      (Rows.blockRootsSpec.post enc Tryd.prog Tryd.f6 false true false false) := by
  refine returnsInHanded_of_change_and (C := Tryd.checked) (X := fun w _ => laidMetH Tryd.prog laidSha w) (fun _ _ _ hh h => h.of_heap hh) own started (by kernel_rfl) Tryd.func6
    (ChangeSpec.witness_shaped (enc := enc) (C := Tryd.checked) (os := os) (X := fun w _ => laidMetH Tryd.prog laidSha w) false (World.doorLaid Tryd.prog 4000 os) #[.slice none 0 0] 8 rfl (World.shaped_of_RefB (by kernel_rfl) (by kernel_rfl)) (by kernel_rfl) (by kernel_rfl) (by kernel_rfl) (door_met os _)) ?_
  intro W base args ds gs before hval0 hW _ _ hLaid _
  have hval : ∀ (j : Nat) t v, Tryd.f6.params[j]? = some t → args[j]? = some v → Value.okWide Tryd.prog W .any base t v := hval0
  have hW' := hW
  obtain ⟨p, q, hA0, _, _, _, _⟩ := hW
  have hA : DataW.TrodAll enc Tryd.prog W 0 (fun _ => true) true Tryd.f6.params.toList args.toList ds p := hA0
  rw [Tryd.params6] at hA hval
  obtain ⟨v0, vs0, d0, ds0, p0, q0, hargs, rfl, rfl, h0, r0⟩ := trodAll_cons hA
  obtain ⟨rfl, rfl, rfl⟩ := trodAll_nil r0
  obtain rfl : args = #[v0] := by cases args; simp_all
  obtain ⟨A0, n0, c0, a0, rfl, k0, m0, w0⟩ := open_slice Tryd.underlying38 (by kernel_rfl) (came_hash Tryd.underlying25 Tryd.underlying5 (by kernel_rfl) (by kernel_rfl)) (hval 0 38 v0 rfl rfl) h0
  refine (blockRoots_walk W (tabs_of_laid hLaid) A0 n0 c0 a0 k0 m0 w0).mono fun e W' ⟨he, bel⟩ => ⟨_, he, ?_⟩
  exact law_post (tb := 4) laidOut (by kernel_rfl) Tryd.underlying4 rfl rfl (fun ds h => match ds, h with | [d0], _ => rfl) hW' bel
theorem blockRoots_holds : Rows.BlockRootsSaid :=
  OpenClaim.holds_of_wide 6 Tryd.f6 rfl rfl rfl rfl rfl rfl rfl ⟨rfl, rfl, rfl, rfl, rfl⟩ rfl rfl rfl rfl rfl (by kernel_rfl) Tryd.func6 (by kernel_rfl)
    (of_decide_eq_true (by kernel_rfl)) (by unfold Func.isWrapper; first | (rw [if_pos (by decide +kernel)]; kernel_rfl) | (rw [if_neg (by decide +kernel)]; exact ⟨rfl, rfl⟩))
    (fun os started H enc _ => blockRoots_lifted os started H enc)
theorem blockRoots_card_holds : Rows.BlockRootsCardSaid :=
  Claim7.holds_tied_plain_at .later [] [.data, .data] true (true, "add6f9de5aa1b9c566b382fb5927ba360e32819176ecfaf204976d6425c6840b") false
    blockRoots_holds (fun _ h => by cases h) (by kernel_rfl) (fun _ h => by cases h) blockRoots_row_tie rfl ⟨rfl, rfl⟩ (by kernel_rfl) rfl
    (fun f fn hf hfn => by
      obtain rfl : f = 6 := Option.some.inj ((show Tryd.prog.funcNamed "tailrace/tailracelaw08.BlockRoots" = some 6 by kernel_rfl).symm.trans hf) |>.symm
      obtain rfl : fn = Tryd.f6 := (Option.some.inj (Tryd.func6.symm.trans hfn)).symm
      exact ⟨by kernel_rfl, fun j t ht => by
        rw [Tryd.params6] at ht
        have hall : ∀ t ∈ [38], Tryd.prog.wantsStandIn t = false := by
          intro t ht
          simp only [List.mem_cons, List.not_mem_nil, or_false] at ht
          rcases ht with rfl <;> kernel_rfl
        exact hall t (List.mem_of_getElem? (by simpa using ht))⟩)
    (by kernel_rfl)
#print axioms blockRoots_card_holds
end Go.Proofs.YtjlkakggmfmfiaaDoor
