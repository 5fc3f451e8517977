/- CoinPlans: the row and the card. -/
import Derived.Test.YtjlkakggmfmfiaaDoorCoinPlansW
import Derived.Test.YtjlkakggmfmfiaaDoorCoinPlansF
import Derived.Test.YtjlkakggmfmfiaaDoorDoorB
import Derived.Test.YtjlkakggmfmfiaaDoorTie
import Derived.Test.YtjlkakggmfmfiaaDoorCards
import Derived.SevenTiedAt
set_option maxRecDepth 100000
set_option linter.unusedVariables false
namespace Go.Proofs.YtjlkakggmfmfiaaDoor
open Go Go.RowKit Go.ChangeShapes Go.WideShapes Go.ChangeAt
theorem coinPlans_walk (w : World) (h : Tabs w ∧ Now w) (A : Option Addr) (n c : Nat) (bs : List (List TPay)) (hnc : n ≤ c) (hcm : c ≤ maxLen) (hC : blksK.C (· < w.heap.size) w A n bs) :
    Calls Tryd.prog 19 #[.slice A n c] w fun e w' => e = .returned (.bool true) ∧ Below w.heap.size w w' := coinPlans_core w h.1 h.2 _ A n c bs hnc hcm hC

/-! ### the row -/
open Go.ChangeShapes Go.WideShapes Go.ChangeAt
theorem coinPlans_lifted (os : Os) (started : os.Started) (H : Type) (enc : TypeId × Value → H) :
    ReturnsInHanded {} Tryd.checked os 19 .any (fun w args => (Rows.coinPlansSpec.pre enc Tryd.prog Tryd.f19 [] false w args ∧ laidMetH Tryd.prog laidBoth w) ∧ sizedMet enc Tryd.prog Tryd.f19 (OpenSpec.ofChange Rows.coinPlansSpec) false w args)
      (Rows.coinPlansSpec.post enc Tryd.prog Tryd.f19 false true false false) := by
  refine returnsInHanded_of_change_and (C := Tryd.checked) (X := fun w _ => laidMetH Tryd.prog laidBoth w) (fun _ _ _ hh h => h.of_heap hh) own started (by kernel_rfl) Tryd.func19
    (ChangeSpec.witness_shaped (enc := enc) (C := Tryd.checked) (os := os) (X := fun w _ => laidMetH Tryd.prog laidBoth w) false (World.doorLaid Tryd.prog 4000 os) #[(.slice none 0 0)] 8 rfl (World.shaped_of_RefB (by kernel_rfl) (by kernel_rfl)) (by kernel_rfl) (by kernel_rfl) (by kernel_rfl) (door_metB os _)) ?_
  intro W base args ds gs before hval0 hW _ _ hLaid _
  have hval : ∀ (j : Nat) t v, Tryd.f19.params[j]? = some t → args[j]? = some v → Value.okWide Tryd.prog W .any base t v := hval0
  have hW' := hW
  obtain ⟨p, q, hA0, _, _, _, _⟩ := hW
  have hA : DataW.TrodAll enc Tryd.prog W 0 (fun _ => true) true Tryd.f19.params.toList args.toList ds p := hA0
  rw [Tryd.params19] at hA hval
  obtain ⟨v0, vs0, d0, ds0, p0, q0, hargs, rfl, rfl, h0, r0⟩ := trodAll_cons hA
  obtain ⟨rfl, rfl, rfl⟩ := trodAll_nil r0
  obtain rfl : args = #[v0] := by cases args; simp_all
  obtain ⟨A0, n0, c0, a0, rfl, k0, m0, w0⟩ := open_slice Tryd.underlying114 (by kernel_rfl) (came_slice Tryd.underlying118 (by kernel_rfl) came_pay) (hval 0 114 v0 rfl rfl) h0
  refine (coinPlans_walk W (both_of_laid hLaid) A0 n0 c0 a0 k0 m0 w0).mono fun e W' ⟨he, bel⟩ => ⟨_, he, ?_⟩
  exact law_post (tb := 4) laidOut (by kernel_rfl) Tryd.underlying4 rfl rfl (fun ds h => match ds, h with | [d0], _ => rfl) hW' bel
theorem coinPlans_holds : Rows.CoinPlansSaid :=
  OpenClaim.holds_of_wide 19 Tryd.f19 rfl rfl rfl rfl rfl rfl rfl ⟨rfl, rfl, rfl, rfl, rfl⟩ rfl rfl rfl rfl rfl (by kernel_rfl) Tryd.func19 coinPlans_closed coinPlans_inst coinPlans_wrap
    (fun os started H enc _ => coinPlans_lifted os started H enc)
theorem coinPlans_card_holds : Rows.CoinPlansCardSaid :=
  Claim7.holds_tied_plain_at .later [] [.data, .data, .data] true (true, "add6f9de5aa1b9c566b382fb5927ba360e32819176ecfaf204976d6425c6840b") false
    coinPlans_holds (fun _ h => by cases h) (by kernel_rfl) (fun _ h => by cases h) coinPlans_row_tie rfl ⟨rfl, rfl⟩ (by kernel_rfl) rfl
    (fun f fn hf hfn => by
      obtain rfl : f = 19 := Option.some.inj ((show Tryd.prog.funcNamed "tailrace/tailracelaw19.CoinPlans" = some 19 by kernel_rfl).symm.trans hf) |>.symm
      obtain rfl : fn = Tryd.f19 := (Option.some.inj (Tryd.func19.symm.trans hfn)).symm
      exact ⟨by kernel_rfl, fun j t ht => by
        rw [Tryd.params19] at ht
        have hall : ∀ t ∈ [114], Tryd.prog.wantsStandIn t = false := by
          intro t ht
          simp only [List.mem_cons, List.not_mem_nil, or_false] at ht
          rcases ht with rfl <;> kernel_rfl
        exact hall t (List.mem_of_getElem? (by simpa using ht))⟩)
    (by kernel_rfl)
#print axioms coinPlans_card_holds
end Go.Proofs.YtjlkakggmfmfiaaDoor
