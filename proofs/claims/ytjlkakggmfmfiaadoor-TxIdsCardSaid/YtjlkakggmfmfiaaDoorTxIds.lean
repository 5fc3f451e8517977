/- TxIds: for every transaction and every witness, with the right tables, the law's call returns true and changes nothing: its number is the digest of its bytes without witnesses, whatever its witnesses are. -/
import Derived.Test.YtjlkakggmfmfiaaDoorTxIdsW
import Derived.Test.YtjlkakggmfmfiaaDoorTxIdsF
import Derived.Test.YtjlkakggmfmfiaaDoorDoor
import Derived.Test.YtjlkakggmfmfiaaDoorTie
import Derived.Test.YtjlkakggmfmfiaaDoorCards
import Derived.SevenTiedAt
set_option maxRecDepth 100000
set_option linter.unusedVariables false
namespace Go.Proofs.YtjlkakggmfmfiaaDoor
open Go Go.RowKit Go.ChangeShapes Go.WideShapes Go.ChangeAt
theorem came_s : Came Tryd.prog 9 RK.str := came_str Tryd.underlying9 (by kernel_rfl)
/-! ### the row -/
open Go.ChangeShapes Go.WideShapes Go.ChangeAt
theorem txIds_lifted (os : Os) (started : os.Started) (H : Type) (enc : TypeId × Value → H) :
    ReturnsInHanded {} Tryd.checked os 12 .any (fun w args => (Rows.txIdsSpec.pre enc Tryd.prog Tryd.f12 [] false w args ∧ laidMetH Tryd.prog laidSha w) ∧ sizedMet enc Tryd.prog Tryd.f12 (OpenSpec.ofChange Rows.txIdsSpec) false w args)
      (Rows.txIdsSpec.post enc Tryd.prog Tryd.f12 false true false false) := by
  refine returnsInHanded_of_change_and (C := Tryd.checked) (X := fun w _ => laidMetH Tryd.prog laidSha w) (fun _ _ _ hh h => h.of_heap hh) own started (by kernel_rfl) Tryd.func12
    (ChangeSpec.witness_shaped (enc := enc) (C := Tryd.checked) (os := os) (X := fun w _ => laidMetH Tryd.prog laidSha w) false (World.doorLaid Tryd.prog 4000 os) #[(.agg #[.int .i32 0, .slice none 0 0, .slice none 0 0, .int .u32 0]), .slice none 0 0] 8 rfl (World.shaped_of_RefB (by kernel_rfl) (by kernel_rfl)) (by kernel_rfl) (by kernel_rfl) (by kernel_rfl) (door_met os _)) ?_
  intro W base args ds gs before hval0 hW _ _ hLaid _
  have hval : ∀ (j : Nat) t v, Tryd.f12.params[j]? = some t → args[j]? = some v → Value.okWide Tryd.prog W .any base t v := hval0
  have hW' := hW
  obtain ⟨p, q, hA0, _, _, _, _⟩ := hW
  have hA : DataW.TrodAll enc Tryd.prog W 0 (fun _ => true) true Tryd.f12.params.toList args.toList ds p := hA0
  rw [Tryd.params12] at hA hval
  obtain ⟨v0, vs0, d0, ds0, p0, q0, hargs, rfl, rfl, h0, r0⟩ := trodAll_cons hA
  obtain ⟨v1, vs1, d1, ds1, p1, q1, rfl, rfl, rfl, h1, r1⟩ := trodAll_cons r0
  obtain ⟨rfl, rfl, rfl⟩ := trodAll_nil r1
  obtain rfl : args = #[v0, v1] := by cases args; simp_all
  obtain ⟨a0, cs0, rfl, w0⟩ := open_struct Tryd.underlying69 came_tx (hval 0 69 v0 rfl rfl) h0
  obtain ⟨A1, n1, c1, a1, rfl, k1, m1, w1⟩ := open_slice Tryd.underlying78 (by kernel_rfl) came_s (hval 1 78 v1 rfl rfl) h1
  refine (txIds_walk W (tabs_of_laid hLaid) a0 cs0 w0 A1 n1 c1 a1 k1 m1 w1).mono fun e W' ⟨he, bel⟩ => ⟨_, he, ?_⟩
  exact law_post (tb := 4) laidOut (by kernel_rfl) Tryd.underlying4 rfl rfl (fun ds h => match ds, h with | [d0, d1], _ => rfl) hW' bel
theorem txIds_holds : Rows.TxIdsSaid :=
  OpenClaim.holds_of_wide 12 Tryd.f12 rfl rfl rfl rfl rfl rfl rfl ⟨rfl, rfl, rfl, rfl, rfl⟩ rfl rfl rfl rfl rfl (by kernel_rfl) Tryd.func12 txIds_closed txIds_inst txIds_wrap
    (fun os started H enc _ => txIds_lifted os started H enc)
theorem txIds_card_holds : Rows.TxIdsCardSaid :=
  Claim7.holds_tied_plain_at .later [] [.data, .data] true (true, "add6f9de5aa1b9c566b382fb5927ba360e32819176ecfaf204976d6425c6840b") false
    txIds_holds (fun _ h => by cases h) (by kernel_rfl) (fun _ h => by cases h) txIds_row_tie rfl ⟨rfl, rfl⟩ (by kernel_rfl) rfl
    (fun f fn hf hfn => by
      obtain rfl : f = 12 := Option.some.inj ((show Tryd.prog.funcNamed "tailrace/tailracelaw07.TxIds" = some 12 by kernel_rfl).symm.trans hf) |>.symm
      obtain rfl : fn = Tryd.f12 := (Option.some.inj (Tryd.func12.symm.trans hfn)).symm
      exact ⟨by kernel_rfl, fun j t ht => by
        rw [Tryd.params12] at ht
        have hall : ∀ t ∈ [69, 78], Tryd.prog.wantsStandIn t = false := by
          intro t ht
          simp only [List.mem_cons, List.not_mem_nil, or_false] at ht
          rcases ht with rfl | rfl <;> kernel_rfl
        exact hall t (List.mem_of_getElem? (by simpa using ht))⟩)
    (by kernel_rfl)
#print axioms txIds_card_holds
end Go.Proofs.YtjlkakggmfmfiaaDoor
