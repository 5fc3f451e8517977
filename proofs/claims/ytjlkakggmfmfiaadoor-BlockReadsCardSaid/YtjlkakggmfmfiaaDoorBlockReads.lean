/- BlockReads: the row and the card. -/
import Derived.Test.YtjlkakggmfmfiaaDoorBlockReadsW
import Derived.Test.YtjlkakggmfmfiaaDoorBlockReadsF
import Derived.Test.YtjlkakggmfmfiaaDoorDoor
import Derived.Test.YtjlkakggmfmfiaaDoorTie
import Derived.Test.YtjlkakggmfmfiaaDoorCards
import Derived.SevenTiedAt
set_option maxRecDepth 100000
set_option linter.unusedVariables false
namespace Go.Proofs.YtjlkakggmfmfiaaDoor
open Go Go.RowKit Go.ChangeShapes Go.WideShapes Go.ChangeAt

/-! ### the row -/
open Go.ChangeShapes Go.WideShapes Go.ChangeAt
theorem blockReads_lifted (os : Os) (started : os.Started) (H : Type) (enc : TypeId × Value → H) :
    ReturnsInHanded {} Tryd.checked os 18 .any (fun w args => (Rows.blockReadsSpec.pre enc Tryd.prog Tryd.f18 [] false w args ∧ laidMetH Tryd.prog laidSha w) ∧ sizedMet enc Tryd.prog Tryd.f18 (OpenSpec.ofChange Rows.blockReadsSpec) false w args)
      (Rows.blockReadsSpec.post enc Tryd.prog Tryd.f18 false true false false) := by
  refine returnsInHanded_of_change_and (C := Tryd.checked) (X := fun w _ => laidMetH Tryd.prog laidSha w) (fun _ _ _ hh h => h.of_heap hh) own started (by kernel_rfl) Tryd.func18
    (ChangeSpec.witness_shaped (enc := enc) (C := Tryd.checked) (os := os) (X := fun w _ => laidMetH Tryd.prog laidSha w) false (World.doorLaid Tryd.prog 4000 os) #[.slice none 0 0] 8 rfl (World.shaped_of_RefB (by kernel_rfl) (by kernel_rfl)) (by kernel_rfl) (by kernel_rfl) (by kernel_rfl) (door_met os _)) ?_
  intro W base args ds gs before hval0 hW _ _ hLaid _
  have hval : ∀ (j : Nat) t v, Tryd.f18.params[j]? = some t → args[j]? = some v → Value.okWide Tryd.prog W .any base t v := hval0
  have hW' := hW
  obtain ⟨p, q, hA0, _, _, _, _⟩ := hW
  have hA : DataW.TrodAll enc Tryd.prog W 0 (fun _ => true) true Tryd.f18.params.toList args.toList ds p := hA0
  rw [Tryd.params18] at hA hval
  obtain ⟨v0, vs0, d0, ds0, p0, q0, hargs, rfl, rfl, h0, r0⟩ := trodAll_cons hA
  obtain ⟨rfl, rfl, rfl⟩ := trodAll_nil r0
  obtain rfl : args = #[v0] := by cases args; simp_all
  obtain ⟨A0, n0, c0, a0, rfl, k0, m0, w0⟩ := open_slice Tryd.underlying22 (by kernel_rfl) (came_int Tryd.underlying5 (by kernel_rfl)) (hval 0 22 v0 rfl rfl) h0
  refine (blockReads_walk W (tabs_of_laid hLaid) A0 n0 c0 a0 k0 m0 w0).mono fun e W' ⟨he, bel⟩ => ⟨_, he, ?_⟩
  exact law_post (tb := 4) laidOut (by kernel_rfl) Tryd.underlying4 rfl rfl (fun ds h => match ds, h with | [d0], _ => rfl) hW' bel
theorem blockReads_holds : Rows.BlockReadsSaid :=
  OpenClaim.holds_of_wide 18 Tryd.f18 rfl rfl rfl rfl rfl rfl rfl ⟨rfl, rfl, rfl, rfl, rfl⟩ rfl rfl rfl rfl rfl (by kernel_rfl) Tryd.func18 blockReads_closed blockReads_inst blockReads_wrap
    (fun os started H enc _ => blockReads_lifted os started H enc)
theorem blockReads_card_holds : Rows.BlockReadsCardSaid :=
  Claim7.holds_tied_plain_at .later [] [.data, .data] true (true, "add6f9de5aa1b9c566b382fb5927ba360e32819176ecfaf204976d6425c6840b") false
    blockReads_holds (fun _ h => by cases h) (by kernel_rfl) (fun _ h => by cases h) blockReads_row_tie rfl ⟨rfl, rfl⟩ (by kernel_rfl) rfl
    (fun f fn hf hfn => by
      obtain rfl : f = 18 := Option.some.inj ((show Tryd.prog.funcNamed "tailrace/tailracelaw08.BlockReads" = some 18 by kernel_rfl).symm.trans hf) |>.symm
      obtain rfl : fn = Tryd.f18 := (Option.some.inj (Tryd.func18.symm.trans hfn)).symm
      exact ⟨by kernel_rfl, fun j t ht => by
        rw [Tryd.params18] at ht
        have hall : ∀ t ∈ [22], Tryd.prog.wantsStandIn t = false := by
          intro t ht
          simp only [List.mem_cons, List.not_mem_nil, or_false] at ht
          rcases ht with rfl <;> kernel_rfl
        exact hall t (List.mem_of_getElem? (by simpa using ht))⟩)
    (by kernel_rfl)
#print axioms blockReads_card_holds
end Go.Proofs.YtjlkakggmfmfiaaDoor
