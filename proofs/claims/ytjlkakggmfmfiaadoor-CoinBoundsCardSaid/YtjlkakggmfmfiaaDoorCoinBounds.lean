/- CoinBounds: the row and the card. -/
import Derived.Test.YtjlkakggmfmfiaaDoorCoinBoundsW
import Derived.Test.YtjlkakggmfmfiaaDoorCoinBoundsF
import Derived.Test.YtjlkakggmfmfiaaDoorDoorB
import Derived.Test.YtjlkakggmfmfiaaDoorTie
import Derived.Test.YtjlkakggmfmfiaaDoorCards
import Derived.SevenTiedAt
set_option maxRecDepth 100000
set_option linter.unusedVariables false
namespace Go.Proofs.YtjlkakggmfmfiaaDoor
open Go Go.RowKit Go.ChangeShapes Go.WideShapes Go.ChangeAt
theorem coinBounds_walk (w : World) (h : Tabs w ∧ Now w) (z : TBlk) (cs : List Value) (hK : blkK.K (· < w.heap.size) w z cs) (ht wh : Int) :
    Calls Tryd.prog 15 #[.agg cs.toArray, .int .i64 ht, .int .i64 wh] w fun e w' => e = .returned (.bool true) ∧ Below w.heap.size w w' := coinBounds_core w h.1 h.2 z cs hK ht wh

/-! ### the row -/
open Go.ChangeShapes Go.WideShapes Go.ChangeAt
theorem coinBounds_lifted (os : Os) (started : os.Started) (H : Type) (enc : TypeId × Value → H) :
    ReturnsInHanded {} Tryd.checked os 15 .any (fun w args => (Rows.coinBoundsSpec.pre enc Tryd.prog Tryd.f15 [] false w args ∧ laidMetH Tryd.prog laidBoth w) ∧ sizedMet enc Tryd.prog Tryd.f15 (OpenSpec.ofChange Rows.coinBoundsSpec) false w args)
      (Rows.coinBoundsSpec.post enc Tryd.prog Tryd.f15 false true false false) := by
  refine returnsInHanded_of_change_and (C := Tryd.checked) (X := fun w _ => laidMetH Tryd.prog laidBoth w) (fun _ _ _ hh h => h.of_heap hh) own started (by kernel_rfl) Tryd.func15
    (ChangeSpec.witness_shaped (enc := enc) (C := Tryd.checked) (os := os) (X := fun w _ => laidMetH Tryd.prog laidBoth w) false (World.doorLaid Tryd.prog 4000 os) #[(Value.agg (blkCells hd0 none 0 0).toArray), (.int .i64 0), (.int .i64 0)] 8 rfl (World.shaped_of_RefB (by kernel_rfl) (by kernel_rfl)) (by kernel_rfl) (by kernel_rfl) (by kernel_rfl) (door_metB os _)) ?_
  intro W base args ds gs before hval0 hW _ _ hLaid _
  have hval : ∀ (j : Nat) t v, Tryd.f15.params[j]? = some t → args[j]? = some v → Value.okWide Tryd.prog W .any base t v := hval0
  have hW' := hW
  obtain ⟨p, q, hA0, _, _, _, _⟩ := hW
  have hA : DataW.TrodAll enc Tryd.prog W 0 (fun _ => true) true Tryd.f15.params.toList args.toList ds p := hA0
  rw [Tryd.params15] at hA hval
  obtain ⟨v0, vs0, d0, ds0, p0, q0, hargs, rfl, rfl, h0, r0⟩ := trodAll_cons hA
  obtain ⟨v1, vs1, d1, ds1, p1, q1, rfl, rfl, rfl, h1, r1⟩ := trodAll_cons r0
  obtain ⟨v2, vs2, d2, ds2, p2, q2, rfl, rfl, rfl, h2, r2⟩ := trodAll_cons r1
  obtain ⟨rfl, rfl, rfl⟩ := trodAll_nil r2
  obtain rfl : args = #[v0, v1, v2] := by cases args; simp_all
  obtain ⟨a0, cs0, rfl, w0⟩ := open_struct Tryd.underlying64 came_blk (hval 0 64 v0 rfl rfl) h0
  obtain ⟨a1, rfl, rfl, rfl, w1⟩ := open_int Tryd.underlying3 (hval 1 3 v1 rfl rfl) h1
  obtain ⟨a2, rfl, rfl, rfl, w2⟩ := open_int Tryd.underlying3 (hval 2 3 v2 rfl rfl) h2
  refine (coinBounds_walk W (both_of_laid hLaid) a0 cs0 w0 a1 a2).mono fun e W' ⟨he, bel⟩ => ⟨_, he, ?_⟩
  exact law_post (tb := 4) laidOut (by kernel_rfl) Tryd.underlying4 rfl rfl (fun ds h => match ds, h with | [d0, d1, d2], _ => rfl) hW' bel
theorem coinBounds_holds : Rows.CoinBoundsSaid :=
  OpenClaim.holds_of_wide 15 Tryd.f15 rfl rfl rfl rfl rfl rfl rfl ⟨rfl, rfl, rfl, rfl, rfl⟩ rfl rfl rfl rfl rfl (by kernel_rfl) Tryd.func15 coinBounds_closed coinBounds_inst coinBounds_wrap
    (fun os started H enc _ => coinBounds_lifted os started H enc)
theorem coinBounds_card_holds : Rows.CoinBoundsCardSaid :=
  Claim7.holds_tied_plain_at .later [] [.data, .data, .data] true (true, "add6f9de5aa1b9c566b382fb5927ba360e32819176ecfaf204976d6425c6840b") false
    coinBounds_holds (fun _ h => by cases h) (by kernel_rfl) (fun _ h => by cases h) coinBounds_row_tie rfl ⟨rfl, rfl⟩ (by kernel_rfl) rfl
    (fun f fn hf hfn => by
      obtain rfl : f = 15 := Option.some.inj ((show Tryd.prog.funcNamed "tailrace/tailracelaw19.CoinBounds" = some 15 by kernel_rfl).symm.trans hf) |>.symm
      obtain rfl : fn = Tryd.f15 := (Option.some.inj (Tryd.func15.symm.trans hfn)).symm
      exact ⟨by kernel_rfl, fun j t ht => by
        rw [Tryd.params15] at ht
        have hall : ∀ t ∈ [64, 3, 3], Tryd.prog.wantsStandIn t = false := by
          intro t ht
          simp only [List.mem_cons, List.not_mem_nil, or_false] at ht
          rcases ht with rfl | rfl | rfl <;> kernel_rfl
        exact hall t (List.mem_of_getElem? (by simpa using ht))⟩)
    (by kernel_rfl)
#print axioms coinBounds_card_holds
#print axioms coinBounds_card_holds
end Go.Proofs.YtjlkakggmfmfiaaDoor
