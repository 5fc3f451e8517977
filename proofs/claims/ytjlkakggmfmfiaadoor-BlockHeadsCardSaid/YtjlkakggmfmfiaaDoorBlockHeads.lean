/- tailracelaw08.BlockHeads: whatever header, bytes and cut, with the right tables, it returns true: its bytes and number are the document's, read again it is it, cut short it is none. -/
import Derived.Test.YtjlkakggmfmfiaaDoorBlkHdW
import Derived.Test.YtjlkakggmfmfiaaDoorDoor
import Derived.Test.YtjlkakggmfmfiaaDoorTie
import Derived.Test.YtjlkakggmfmfiaaDoorCards
import Derived.SevenTiedAt
set_option maxRecDepth 100000
set_option linter.unusedVariables false
namespace Go.Proofs.YtjlkakggmfmfiaaDoor
open Go Go.RowKit Go.ChangeShapes Go.WideShapes Go.ChangeAt
theorem blockHeads_walk (w : World) (hT : Tabs w) (x : Int × (List Int × (List Int × (Int × (Int × Int))))) (cs : List Value) (hK : hdP.K (· < w.heap.size) w x cs) (A : Option Addr) (n c : Nat) (ms : List Int) (hnc : n ≤ c) (hcm : c ≤ maxLen) (hC : (RK.int .u8).C (· < w.heap.size) w A n ms) (cut : Int) :
    Calls Tryd.prog 9 #[.agg cs.toArray, .slice A n c, .int .i64 cut] w fun e w' => e = .returned (.bool true) ∧ Below w.heap.size w w' := by
  obtain ⟨h, rfl, hk⟩ := hdP_cells hK
  exact blockHeads_core w hT h hk A n c ms hnc hcm hC cut

/-! ### the row -/
open Go.ChangeShapes Go.WideShapes Go.ChangeAt
theorem blockHeads_lifted (os : Os) (started : os.Started) (H : Type) (enc : TypeId × Value → H) :
    ReturnsInHanded {} Tryd.checked os 9 .any (fun w args => (Rows.blockHeadsSpec.pre enc Tryd.prog Tryd.f9 [] false w args ∧ laidMetH Tryd.prog laidSha w) ∧ sizedMet enc Tryd.prog Tryd.f9 (OpenSpec.ofChange Rows.blockHeadsSpec) false w args)
      (Rows.blockHeadsSpec.post enc Tryd.prog Tryd.f9 false true false false) := by
  refine returnsInHanded_of_change_and (C := Tryd.checked) (X := fun w _ => laidMetH Tryd.prog laidSha w) (fun _ _ _ hh h => h.of_heap hh) own started (by kernel_rfl) Tryd.func9
    (ChangeSpec.witness_shaped (enc := enc) (C := Tryd.checked) (os := os) (X := fun w _ => laidMetH Tryd.prog laidSha w) false (World.doorLaid Tryd.prog 4000 os) #[(Value.agg hd0.cells.toArray), .slice none 0 0, .int .i64 0] 8 rfl (World.shaped_of_RefB (by kernel_rfl) (by kernel_rfl)) (by kernel_rfl) (by kernel_rfl) (by kernel_rfl) (door_met os _)) ?_
  intro W base args ds gs before hval0 hW _ _ hLaid _
  have hval : ∀ (j : Nat) t v, Tryd.f9.params[j]? = some t → args[j]? = some v → Value.okWide Tryd.prog W .any base t v := hval0
  have hW' := hW
  obtain ⟨p, q, hA0, _, _, _, _⟩ := hW
  have hA : DataW.TrodAll enc Tryd.prog W 0 (fun _ => true) true Tryd.f9.params.toList args.toList ds p := hA0
  rw [Tryd.params9] at hA hval
  obtain ⟨v0, vs0, d0, ds0, p0, q0, hargs, rfl, rfl, h0, r0⟩ := trodAll_cons hA
  obtain ⟨v1, vs1, d1, ds1, p1, q1, rfl, rfl, rfl, h1, r1⟩ := trodAll_cons r0
  obtain ⟨v2, vs2, d2, ds2, p2, q2, rfl, rfl, rfl, h2, r2⟩ := trodAll_cons r1
  obtain ⟨rfl, rfl, rfl⟩ := trodAll_nil r2
  obtain rfl : args = #[v0, v1, v2] := by cases args; simp_all
  obtain ⟨a0, cs0, rfl, w0⟩ := open_struct Tryd.underlying53 (came_struct Tryd.underlying53 (by kernel_rfl) (cameF_cons rfl (came_int Tryd.underlying21 (by kernel_rfl)) (cameF_cons rfl (came_hash Tryd.underlying25 Tryd.underlying5 (by kernel_rfl) (by kernel_rfl)) (cameF_cons rfl (came_hash Tryd.underlying25 Tryd.underlying5 (by kernel_rfl) (by kernel_rfl)) (cameF_cons rfl (came_int Tryd.underlying27 (by kernel_rfl)) (cameF_cons rfl (came_int Tryd.underlying27 (by kernel_rfl)) (cameF_one rfl (came_int Tryd.underlying27 (by kernel_rfl)))))))) : Came Tryd.prog 53 hdP) (hval 0 53 v0 rfl rfl) h0
  obtain ⟨A1, n1, c1, a1, rfl, k1, m1, w1⟩ := open_slice Tryd.underlying22 (by kernel_rfl) (came_int Tryd.underlying5 (by kernel_rfl)) (hval 1 22 v1 rfl rfl) h1
  obtain ⟨a2, rfl, rfl, rfl, w2⟩ := open_int Tryd.underlying3 (hval 2 3 v2 rfl rfl) h2
  refine (blockHeads_walk W (tabs_of_laid hLaid) a0 cs0 w0 A1 n1 c1 a1 k1 m1 w1 a2).mono fun e W' ⟨he, bel⟩ => ⟨_, he, ?_⟩
  exact law_post (tb := 4) laidOut (by kernel_rfl) Tryd.underlying4 rfl rfl (fun ds h => match ds, h with | [d0, d1, d2], _ => rfl) hW' bel
theorem blockHeads_holds : Rows.BlockHeadsSaid :=
  OpenClaim.holds_of_wide 9 Tryd.f9 rfl rfl rfl rfl rfl rfl rfl ⟨rfl, rfl, rfl, rfl, rfl⟩ rfl rfl rfl rfl rfl (by kernel_rfl) Tryd.func9 (by kernel_rfl)
    (of_decide_eq_true (by kernel_rfl)) (by unfold Func.isWrapper; first | (rw [if_pos (by decide +kernel)]; kernel_rfl) | (rw [if_neg (by decide +kernel)]; exact ⟨rfl, rfl⟩))
    (fun os started H enc _ => blockHeads_lifted os started H enc)
theorem blockHeads_card_holds : Rows.BlockHeadsCardSaid :=
  Claim7.holds_tied_plain_at .later [] [.data, .data] true (true, "add6f9de5aa1b9c566b382fb5927ba360e32819176ecfaf204976d6425c6840b") false
    blockHeads_holds (fun _ h => by cases h) (by kernel_rfl) (fun _ h => by cases h) blockHeads_row_tie rfl ⟨rfl, rfl⟩ (by kernel_rfl) rfl
    (fun f fn hf hfn => by
      obtain rfl : f = 9 := Option.some.inj ((show Tryd.prog.funcNamed "tailrace/tailracelaw08.BlockHeads" = some 9 by kernel_rfl).symm.trans hf) |>.symm
      obtain rfl : fn = Tryd.f9 := (Option.some.inj (Tryd.func9.symm.trans hfn)).symm
      exact ⟨by kernel_rfl, fun j t ht => by
        rw [Tryd.params9] at ht
        have hall : ∀ t ∈ [53, 22, 3], Tryd.prog.wantsStandIn t = false := by
          intro t ht
          simp only [List.mem_cons, List.not_mem_nil, or_false] at ht
          rcases ht with rfl | rfl | rfl <;> kernel_rfl
        exact hall t (List.mem_of_getElem? (by simpa using ht))⟩)
    (by kernel_rfl)
#print axioms blockHeads_card_holds
end Go.Proofs.YtjlkakggmfmfiaaDoor
