/- CoinTouched: the row and the card. -/
import Derived.Test.YtclkgflficlmiaaDoorCoinTouchedW
import Derived.Test.YtclkgflficlmiaaDoorCoinTouchedF
import Derived.Test.YtclkgflficlmiaaDoorDoorB
import Derived.Test.YtclkgflficlmiaaDoorTie
import Derived.Test.YtclkgflficlmiaaDoorCards
import Derived.SevenTiedAt
set_option maxRecDepth 100000
set_option linter.unusedVariables false
namespace Go.Proofs.YtclkgflficlmiaaDoor
open Go Go.RowKit Go.ChangeShapes Go.WideShapes Go.ChangeAt
theorem coinTouched_walk (w : World) (h : Tabs w ∧ Now w) (A : Option Addr) (n c : Nat) (bs : List (List TPay)) (hnc : n ≤ c) (hcm : c ≤ maxLen) (hC : blksK.C (· < w.heap.size) w A n bs) :
    Calls Tryd.prog 14 #[.slice A n c] w fun e w' => e = .returned (.bool true) ∧ Below w.heap.size w w' := coinTouched_core w h.1 h.2 _ A n c bs hnc hcm hC

/-! ### the row -/
open Go.ChangeShapes Go.WideShapes Go.ChangeAt
theorem coinTouched_lifted (os : Os) (started : os.Started) (H : Type) (enc : TypeId × Value → H) :
    ReturnsInHanded {} Tryd.checked os 14 .any (fun w args => (Rows.coinTouchedSpec.pre enc Tryd.prog Tryd.f14 [] false w args ∧ laidMetH Tryd.prog laidBoth w) ∧ sizedMet enc Tryd.prog Tryd.f14 (OpenSpec.ofChange Rows.coinTouchedSpec) false w args)
      (Rows.coinTouchedSpec.post enc Tryd.prog Tryd.f14 false true false false) := by
  refine returnsInHanded_of_change_and (C := Tryd.checked) (X := fun w _ => laidMetH Tryd.prog laidBoth w) (fun _ _ _ hh h => h.of_heap hh) own started (by kernel_rfl) Tryd.func14
    (ChangeSpec.witness_shaped (enc := enc) (C := Tryd.checked) (os := os) (X := fun w _ => laidMetH Tryd.prog laidBoth w) false (World.doorLaid Tryd.prog 4000 os) #[(.slice none 0 0)] 8 rfl (World.shaped_of_RefB (by kernel_rfl) (by kernel_rfl)) (by kernel_rfl) (by kernel_rfl) (by kernel_rfl) (door_metB os _)) ?_
  intro W base args ds gs before hval0 hW _ _ hLaid _
  have hval : ∀ (j : Nat) t v, Tryd.f14.params[j]? = some t → args[j]? = some v → Value.okWide Tryd.prog W .any base t v := hval0
  have hW' := hW
  obtain ⟨p, q, hA0, _, _, _, _⟩ := hW
  have hA : DataW.TrodAll enc Tryd.prog W 0 (fun _ => true) true Tryd.f14.params.toList args.toList ds p := hA0
  rw [Tryd.params14] at hA hval
  obtain ⟨v0, vs0, d0, ds0, p0, q0, hargs, rfl, rfl, h0, r0⟩ := trodAll_cons hA
  obtain ⟨rfl, rfl, rfl⟩ := trodAll_nil r0
  obtain rfl : args = #[v0] := by cases args; simp_all
  obtain ⟨A0, n0, c0, a0, rfl, k0, m0, w0⟩ := open_slice Tryd.underlying97 (by kernel_rfl) (came_slice Tryd.underlying102 (by kernel_rfl) came_pay) (hval 0 97 v0 rfl rfl) h0
  refine (coinTouched_walk W (both_of_laid hLaid) A0 n0 c0 a0 k0 m0 w0).mono fun e W' ⟨he, bel⟩ => ⟨_, he, ?_⟩
  exact law_post (tb := 4) laidOut (by kernel_rfl) Tryd.underlying4 rfl rfl (fun ds h => match ds, h with | [d0], _ => rfl) hW' bel
theorem coinTouched_holds : Rows.CoinTouchedSaid :=
  OpenClaim.holds_of_wide 14 Tryd.f14 rfl rfl rfl rfl rfl rfl rfl ⟨rfl, rfl, rfl, rfl, rfl⟩ rfl rfl rfl rfl rfl (by kernel_rfl) Tryd.func14 coinTouched_closed coinTouched_inst coinTouched_wrap
    (fun os started H enc _ => coinTouched_lifted os started H enc)
theorem coinTouched_card_holds : Rows.CoinTouchedCardSaid :=
  Claim7.holds_tied_plain_at .later [] [.data, .data, .data] true (true, "df560059e75fe0724ab6387cc22a01b0a7dfa19b4504123e5cac5a4c1289a75b") false
    coinTouched_holds (fun _ h => by cases h) (by kernel_rfl) (fun _ h => by cases h) coinTouched_row_tie rfl ⟨rfl, rfl⟩ (by kernel_rfl) rfl
    (fun f fn hf hfn => by
      obtain rfl : f = 14 := Option.some.inj ((show Tryd.prog.funcNamed "tailrace/tailracelaw19.CoinTouched" = some 14 by kernel_rfl).symm.trans hf) |>.symm
      obtain rfl : fn = Tryd.f14 := (Option.some.inj (Tryd.func14.symm.trans hfn)).symm
      exact ⟨by kernel_rfl, fun j t ht => by
        rw [Tryd.params14] at ht
        have hall : ∀ t ∈ [97], Tryd.prog.wantsStandIn t = false := by
          intro t ht
          simp only [List.mem_cons, List.not_mem_nil, or_false] at ht
          rcases ht with rfl <;> kernel_rfl
        exact hall t (List.mem_of_getElem? (by simpa using ht))⟩)
    (by kernel_rfl)
#print axioms coinTouched_card_holds
end Go.Proofs.YtclkgflficlmiaaDoor
