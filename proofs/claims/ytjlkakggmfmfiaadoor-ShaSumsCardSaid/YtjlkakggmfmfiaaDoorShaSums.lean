/- tailracelaw03.ShaSums: whatever bytes, with the right tables, it returns true: the digest is that of the document's way. -/
import Derived.Test.YtjlkakggmfmfiaaDoorRefSum
import Derived.Test.YtjlkakggmfmfiaaDoorMake
import Derived.Test.YtjlkakggmfmfiaaDoorSha2
import Derived.Test.YtjlkakggmfmfiaaDoorDoor
import Derived.Test.YtjlkakggmfmfiaaDoorKinds
import Derived.Test.YtjlkakggmfmfiaaDoorTie
import Derived.Test.YtjlkakggmfmfiaaDoorCards
import Derived.SevenTiedAt
set_option maxRecDepth 100000
set_option linter.unusedVariables false
namespace Go.Proofs.YtjlkakggmfmfiaaDoor
open Go Go.RowKit
set_option maxHeartbeats 1000000 in
theorem shaSums_walk (w : World) (hT : Tabs w) (A : Option Addr) (n c0 : Nat) (bs : List Int) (hnc : n ≤ c0) (hcm : c0 ≤ maxLen) (hC : (RK.int .u8).C (· < w.heap.size) w A n bs) :
    Calls Tryd.prog 3 #[.slice A n c0] w fun e w' => e = .returned (.bool true) ∧ Below w.heap.size w w' := by
  have hr := hC.rd_int
  have hbs := hC.bytes
  have hl : bs.length = n := hC.len
  unfold maxLen at hcm
  have hs := sumF_length bs
  have hq : ∀ W : World, (Op.equalIn 10000 25 (.agg (nums .u8 (sumF bs)).toArray) (.agg (nums .u8 (sumF bs)).toArray)).run Tryd.prog W = .ok (sumF bs == sumF bs) W := fun W => run_equalIn_nums (P := Tryd.prog) W 9998 25 5 32 .u8 .u8 Tryd.underlying25 Tryd.underlying5 info_u8 (sumF bs) (sumF bs) hs hs
  simp only [beq_self_eq_true] at hq
  have HQ := Lib.hid hq
  have HL := Lib.hid hl
  clear hC hq hl
  go_enter Tryd.func3, Tryd.ntmps3
  go_wp2_with fail
  refine (head03_calls _ hT).mono ?_
  rintro e w0 ⟨rfl, hb0⟩
  by_cases hn : 1000 < n
  · have hn' : (1000 : Int) < (n : Int) := by omega
    go_wp2
    go_ret
    exact ⟨rfl, hb0⟩
  · have hn' : ¬ (1000 : Int) < (n : Int) := by omega
    have hr0 := hr.below hb0
    have hT0 := hT.below hb0
    have hs0 := hb0.size
    have hown0 := own_new (w := w0) (base := w0.heap.size) (e := 5) (nums .u8 []) (Nat.le_refl _) (by decide)
    clear hr hT
    go_wp2_with (first | (refine wpList_appN rfl (.tmp 9) (.tmp 10) 22 rfl w0.heap.size 5 _ 1 Tryd.underlying22 info8S rfl (.slice (some ⟨w0.heap.size, 0, none⟩) 0 0) 0 (nums .u8 []) rfl hown0 A n c0 (nums .u8 bs) rfl (hr0.alloc _) (nums_one _ _) n (nums .u8 bs) (Nat.zero_add _) rfl (by unfold maxLen; omega) (by omega) (by simp) ?_; intro A1 c1 w1 hown1 hgrow1 hat1))
    have hb1 : Below w0.heap.size w0 w1 := ((Below.refl _ _).alloc (Nat.le_refl _) _).grown hgrow1 (by simp) (fun k hk => by simp [Value.ownBlock] at hk; omega)
    have hr1 := hr0.below hb1
    have hT1 := hT0.below hb1
    have hm1 := Rd.of_own hown1
    have hc1 := (own_le hown1).1
    have hb01 := below_then hb0 hs0 hb1
    have hs1 := hb1.size
    clear hown0 hown1 hgrow1 hat1 hr0 hT0 hb0 hb1
    refine (sum_calls A1 n c1 bs _ (by unfold maxLen; omega) hc1 hbs hm1 hT1).mono ?_
    rintro e w2 ⟨rfl, hb2⟩
    have hr2 := hr1.below hb2
    have hm2 := hm1.below hb2
    have hb02 := below_then hb01 (by omega) hb2
    have hs2 := hb2.size
    clear hr1 hm1 hT1 hb01 hb2
    go_wp2_with fail
    refine (make_calls _).mono ?_
    rintro e w3 ⟨rfl, hb3⟩
    have hr3 := hr2.below hb3
    have hm3 := hm2.below hb3
    have hb03 := below_then hb02 (by omega) hb3
    have hs3 := hb3.size
    clear hr2 hm2 hb02 hb3
    go_wp2_with fail
    refine (refsum_calls A n c0 bs _ (by omega) hbs hr3).mono ?_
    rintro e w4 ⟨rfl, hb4⟩
    have hr4 := hr3.below hb4
    have hm4 := hm3.below hb4
    have hb04 := below_then hb03 (by omega) hb4
    have k1 := conv_rd (P := Tryd.prog) (c := c1) Tryd.underlying22 Tryd.underlying5 Tryd.underlying9 hm4
    have k2 := conv_rd (P := Tryd.prog) (c := c0) Tryd.underlying22 Tryd.underlying5 Tryd.underlying9 hr4
    have hq4 := HQ.out w4
    clear hr3 hm3 hb03 hb4
    go_wp2
    go_ret
    exact ⟨rfl, hb04⟩

/-! ### the row -/
open Go.ChangeShapes Go.WideShapes Go.ChangeAt
theorem shaSums_lifted (os : Os) (started : os.Started) (H : Type) (enc : TypeId × Value → H) :
    ReturnsInHanded {} Tryd.checked os 3 .any (fun w args => (Rows.shaSumsSpec.pre enc Tryd.prog Tryd.f3 [] false w args ∧ laidMetH Tryd.prog laidSha w) ∧ sizedMet enc Tryd.prog Tryd.f3 (OpenSpec.ofChange Rows.shaSumsSpec) false w args)
      (Rows.shaSumsSpec.post enc Tryd.prog Tryd.f3 false true false false) := by
  refine returnsInHanded_of_change_and (C := Tryd.checked) (X := fun w _ => laidMetH Tryd.prog laidSha w) (fun _ _ _ hh h => h.of_heap hh) own started (by kernel_rfl) Tryd.func3
    (ChangeSpec.witness_shaped (enc := enc) (C := Tryd.checked) (os := os) (X := fun w _ => laidMetH Tryd.prog laidSha w) false (World.doorLaid Tryd.prog 4000 os) #[.slice none 0 0] 8 rfl (World.shaped_of_RefB (by kernel_rfl) (by kernel_rfl)) (by kernel_rfl) (by kernel_rfl) (by kernel_rfl) (door_met os _)) ?_
  intro W base args ds gs before hval0 hW _ _ hLaid _
  have hval : ∀ (j : Nat) t v, Tryd.f3.params[j]? = some t → args[j]? = some v → Value.okWide Tryd.prog W .any base t v := hval0
  have hW' := hW
  obtain ⟨p, q, hA0, _, _, _, _⟩ := hW
  have hA : DataW.TrodAll enc Tryd.prog W 0 (fun _ => true) true Tryd.f3.params.toList args.toList ds p := hA0
  rw [Tryd.params3] at hA hval
  obtain ⟨v0, vs0, d0, ds0, p0, q0, hargs, rfl, rfl, h0, r0⟩ := trodAll_cons hA
  obtain ⟨rfl, rfl, rfl⟩ := trodAll_nil r0
  obtain rfl : args = #[v0] := by cases args; simp_all
  obtain ⟨A0, n0, c0, a0, rfl, k0, m0, w0⟩ := open_slice Tryd.underlying22 (by kernel_rfl) (came_int Tryd.underlying5 (by kernel_rfl)) (hval 0 22 v0 rfl rfl) h0
  refine (shaSums_walk W (tabs_of_laid hLaid) A0 n0 c0 a0 k0 m0 w0).mono fun e W' ⟨he, bel⟩ => ⟨_, he, ?_⟩
  exact law_post (tb := 4) laidOut (by kernel_rfl) Tryd.underlying4 rfl rfl (fun ds h => match ds, h with | [d0], _ => rfl) hW' bel
theorem shaSums_holds : Rows.ShaSumsSaid :=
  OpenClaim.holds_of_wide 3 Tryd.f3 rfl rfl rfl rfl rfl rfl rfl ⟨rfl, rfl, rfl, rfl, rfl⟩ rfl rfl rfl rfl rfl (by kernel_rfl) Tryd.func3 (by kernel_rfl)
    (of_decide_eq_true (by kernel_rfl)) (by unfold Func.isWrapper; first | (rw [if_pos (by decide +kernel)]; kernel_rfl) | (rw [if_neg (by decide +kernel)]; exact ⟨rfl, rfl⟩))
    (fun os started H enc _ => shaSums_lifted os started H enc)
theorem shaSums_card_holds : Rows.ShaSumsCardSaid :=
  Claim7.holds_tied_plain_at .later [] [.data, .data] true (true, "add6f9de5aa1b9c566b382fb5927ba360e32819176ecfaf204976d6425c6840b") false
    shaSums_holds (fun _ h => by cases h) (by kernel_rfl) (fun _ h => by cases h) shaSums_row_tie rfl ⟨rfl, rfl⟩ (by kernel_rfl) rfl
    (fun f fn hf hfn => by
      obtain rfl : f = 3 := Option.some.inj ((show Tryd.prog.funcNamed "tailrace/tailracelaw03.ShaSums" = some 3 by kernel_rfl).symm.trans hf) |>.symm
      obtain rfl : fn = Tryd.f3 := (Option.some.inj (Tryd.func3.symm.trans hfn)).symm
      exact ⟨by kernel_rfl, fun j t ht => by
        rw [Tryd.params3] at ht
        have hall : ∀ t ∈ [22], Tryd.prog.wantsStandIn t = false := by
          intro t ht
          simp only [List.mem_cons, List.not_mem_nil, or_false] at ht
          rcases ht with rfl <;> kernel_rfl
        exact hall t (List.mem_of_getElem? (by simpa using ht))⟩)
    (by kernel_rfl)
#print axioms shaSums_card_holds
end Go.Proofs.YtjlkakggmfmfiaaDoor
