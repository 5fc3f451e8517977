/- tailracelaw03.ShaEdges: whatever byte and length, with the right tables, it returns true: the digest of a run of one byte is that of the document's way. -/
import Derived.Test.YtjlkakggmfmfiaaDoorRefSum
import Derived.Test.YtjlkakggmfmfiaaDoorMake
import Derived.Test.YtjlkakggmfmfiaaDoorSha2
import Derived.Test.YtjlkakggmfmfiaaDoorMask
import Derived.Test.YtjlkakggmfmfiaaDoorDoor
import Derived.Test.YtjlkakggmfmfiaaDoorKinds
import Derived.Test.YtjlkakggmfmfiaaDoorTie
import Derived.Test.YtjlkakggmfmfiaaDoorCards
import Derived.SevenTiedAt
set_option maxRecDepth 100000
set_option linter.unusedVariables false
namespace Go.Proofs.YtjlkakggmfmfiaaDoor
open Go Go.RowKit
theorem Bytes.set_ {xs : List Int} (h : Bytes xs) (i : Nat) {x : Int} (h0 : 0 ≤ x) (h1 : x ≤ 255) : Bytes (xs.set i x) := by
  intro y hy
  rcases List.mem_or_eq_of_mem_set hy with h2 | rfl
  · exact h y h2
  · exact ⟨h0, h1⟩
theorem Bytes.zeros (n : Nat) : Bytes (List.replicate n 0) := by
  intro y hy
  rw [List.eq_of_mem_replicate hy]
  exact ⟨by decide, by decide⟩
set_option maxHeartbeats 1000000 in
theorem shaEdges_walk (w : World) (hT : Tabs w) (c : Int) (hwc : (Lit.int .u8 c).wf = true) (x : Int) : Calls Tryd.prog 4 #[.int .u8 c, .int .i64 x] w fun e w' => e = .returned (.bool true) ∧ Below w.heap.size w w' := by
  have hmask := i64_mask511 x
  obtain ⟨hc0, hc1⟩ : 0 ≤ c ∧ c ≤ 255 := by
    simp [Lit.wf, IntKind.min, IntKind.max, IntKind.signed, IntKind.bits] at hwc
    omega
  clear hwc
  obtain ⟨N, hN, hN1⟩ : ∃ N : Nat, x % 512 = (N : Int) ∧ N ≤ 511 := ⟨(x % 512).toNat, by omega, by omega⟩
  have hmk := fun W => make_nums (P := Tryd.prog) W 22 5 .u8 1 Tryd.underlying22 info8S N (by omega) (by unfold maxLen; omega)
  go_enter Tryd.func4, Tryd.ntmps4
  go_wp2_with fail
  refine (head03_calls _ hT).mono ?_
  rintro e w0 ⟨rfl, hb0⟩
  have hT0 := hT.below hb0
  have hs0 := hb0.size
  clear hT
  go_upto_region 5 with fail
  clear hmask hN hmk
  have hg := heap_alloc_new w0 (.cells (nums .u8 (List.replicate N 0)).toArray 5)
  have hba : Below w0.heap.size w0 (w0.alloc (.cells (nums .u8 (List.replicate N 0)).toArray 5)) := (Below.refl _ _).alloc (Nat.le_refl _) _
  refine wp_gen (q := fun wr => Below w0.heap.size w0 wr ∧ wr.heap[w0.heap.size]? = some (.cells (nums .u8 (List.replicate N 0)).toArray 5)) ⟨hba, hg⟩ (fun w5 h5 => ?_)
  clear hg hba
  obtain ⟨hb5, hg5⟩ := h5
  go_wp2
  go_loopw [15] (fun v wr => ∃ (i : Nat) (L : List Int), i ≤ N ∧ v = .int .i64 i ∧ L.length = N ∧ Bytes L ∧ Below w0.heap.size w0 wr ∧ wr.heap[w0.heap.size]? = some (.cells (nums .u8 L).toArray 5)) (fun v _ => (N - intOf v).toNat)
  case atStart => exact ⟨0, List.replicate N 0, by omega, rfl, List.length_replicate, Bytes.zeros N, hb5, hg5⟩
  case round =>
    clear hb5 hg5
    obtain ⟨i, L, hi, rfl, hL, hB, hbel, hg⟩ := hrel
    by_cases hlt : i < N
    · have hlt' : (i : Int) < (N : Int) := by omega
      have hco := blk_num hg i (by omega)
      have hfo := blk_frozen hg i
      go_wp2
      go_roundw
      case rel =>
        refine ⟨i + 1, L.set i c, by omega, by go_num, by rw [List.length_set]; exact hL, hB.set_ i hc0 hc1, ?_, ?_⟩
        · exact (turned_setCell wr w0.heap.size i _).below hbel (Nat.le_refl _)
        · have := blk_set hg i (.int .u8 c)
          rw [nums_setA] at this
          exact this
      case measure => simp [intOf]; omega
    · have hlt' : ¬ (i : Int) < (N : Int) := by omega
      have hTr : Tabs wr := hT0.below hbel
      have hb1 : Below w.heap.size w wr := below_then hb0 hb0.size hbel
      have hr := Rd.of_block0 hg
      rw [nums_length, hL] at hr
      clear hbel hg
      have hs := sumF_length L
      have hq : ∀ W : World, (Op.equalIn 10000 25 (.agg (nums .u8 (sumF L)).toArray) (.agg (nums .u8 (sumF L)).toArray)).run Tryd.prog W = .ok (sumF L == sumF L) W := fun W => run_equalIn_nums (P := Tryd.prog) W 9998 25 5 32 .u8 .u8 Tryd.underlying25 Tryd.underlying5 info_u8 (sumF L) (sumF L) hs hs
      simp only [beq_self_eq_true] at hq
      have HQ := Lib.hid hq
      clear hq hs hL
      go_wp2_with fail
      refine (sum_calls (some ⟨w0.heap.size, 0, none⟩) N N L _ (by unfold maxLen; omega) (Nat.le_refl _) hB hr hTr).mono ?_
      rintro e w2 ⟨rfl, hb2⟩
      have hr2 := hr.below hb2
      have hb02 := below_then hb1 hb1.size hb2
      clear hr hTr hb1 hb2
      go_wp2_with fail
      refine (make_calls _).mono ?_
      rintro e w3 ⟨rfl, hb3⟩
      have hr3 := hr2.below hb3
      have hb03 := below_then hb02 hb02.size hb3
      clear hr2 hb02 hb3
      go_wp2_with fail
      refine (refsum_calls (some ⟨w0.heap.size, 0, none⟩) N N L _ (by omega) hB hr3).mono ?_
      rintro e w4 ⟨rfl, hb4⟩
      have hb04 := below_then hb03 hb03.size hb4
      clear hr3 hb03 hb4
      have hq4 := HQ.out
      go_wp2
      go_ret
      exact ⟨rfl, hb04⟩

/-! ### the row -/
open Go.ChangeShapes Go.WideShapes Go.ChangeAt
theorem shaEdges_lifted (os : Os) (started : os.Started) (H : Type) (enc : TypeId × Value → H) :
    ReturnsInHanded {} Tryd.checked os 4 .any (fun w args => (Rows.shaEdgesSpec.pre enc Tryd.prog Tryd.f4 [] false w args ∧ laidMetH Tryd.prog laidSha w) ∧ sizedMet enc Tryd.prog Tryd.f4 (OpenSpec.ofChange Rows.shaEdgesSpec) false w args)
      (Rows.shaEdgesSpec.post enc Tryd.prog Tryd.f4 false true false false) := by
  refine returnsInHanded_of_change_and (C := Tryd.checked) (X := fun w _ => laidMetH Tryd.prog laidSha w) (fun _ _ _ hh h => h.of_heap hh) own started (by kernel_rfl) Tryd.func4
    (ChangeSpec.witness_shaped (enc := enc) (C := Tryd.checked) (os := os) (X := fun w _ => laidMetH Tryd.prog laidSha w) false (World.doorLaid Tryd.prog 4000 os) #[.int .u8 0, .int .i64 0] 8 rfl (World.shaped_of_RefB (by kernel_rfl) (by kernel_rfl)) (by kernel_rfl) (by kernel_rfl) (by kernel_rfl) (door_met os _)) ?_
  intro W base args ds gs before hval0 hW _ _ hLaid _
  have hval : ∀ (j : Nat) t v, Tryd.f4.params[j]? = some t → args[j]? = some v → Value.okWide Tryd.prog W .any base t v := hval0
  have hW' := hW
  obtain ⟨p, q, hA0, _, _, _, _⟩ := hW
  have hA : DataW.TrodAll enc Tryd.prog W 0 (fun _ => true) true Tryd.f4.params.toList args.toList ds p := hA0
  rw [Tryd.params4] at hA hval
  obtain ⟨v0, vs0, d0, ds0, p0, q0, hargs, rfl, rfl, h0, r0⟩ := trodAll_cons hA
  obtain ⟨v1, vs1, d1, ds1, p1, q1, rfl, rfl, rfl, h1, r1⟩ := trodAll_cons r0
  obtain ⟨rfl, rfl, rfl⟩ := trodAll_nil r1
  obtain rfl : args = #[v0, v1] := by cases args; simp_all
  obtain ⟨a0, rfl, rfl, rfl, w0⟩ := open_int Tryd.underlying5 (hval 0 5 v0 rfl rfl) h0
  obtain ⟨a1, rfl, rfl, rfl, w1⟩ := open_int Tryd.underlying3 (hval 1 3 v1 rfl rfl) h1
  refine (shaEdges_walk W (tabs_of_laid hLaid) a0 w0 a1).mono fun e W' ⟨he, bel⟩ => ⟨_, he, ?_⟩
  exact law_post (tb := 4) laidOut (by kernel_rfl) Tryd.underlying4 rfl rfl (fun ds h => match ds, h with | [d0, d1], _ => rfl) hW' bel
theorem shaEdges_holds : Rows.ShaEdgesSaid :=
  OpenClaim.holds_of_wide 4 Tryd.f4 rfl rfl rfl rfl rfl rfl rfl ⟨rfl, rfl, rfl, rfl, rfl⟩ rfl rfl rfl rfl rfl (by kernel_rfl) Tryd.func4 (by kernel_rfl)
    (of_decide_eq_true (by kernel_rfl)) (by unfold Func.isWrapper; first | (rw [if_pos (by decide +kernel)]; kernel_rfl) | (rw [if_neg (by decide +kernel)]; exact ⟨rfl, rfl⟩))
    (fun os started H enc _ => shaEdges_lifted os started H enc)
theorem shaEdges_card_holds : Rows.ShaEdgesCardSaid :=
  Claim7.holds_tied_plain_at .later [] [.data, .data] true (true, "add6f9de5aa1b9c566b382fb5927ba360e32819176ecfaf204976d6425c6840b") false
    shaEdges_holds (fun _ h => by cases h) (by kernel_rfl) (fun _ h => by cases h) shaEdges_row_tie rfl ⟨rfl, rfl⟩ (by kernel_rfl) rfl
    (fun f fn hf hfn => by
      obtain rfl : f = 4 := Option.some.inj ((show Tryd.prog.funcNamed "tailrace/tailracelaw03.ShaEdges" = some 4 by kernel_rfl).symm.trans hf) |>.symm
      obtain rfl : fn = Tryd.f4 := (Option.some.inj (Tryd.func4.symm.trans hfn)).symm
      exact ⟨by kernel_rfl, fun j t ht => by
        rw [Tryd.params4] at ht
        have hall : ∀ t ∈ [5, 3], Tryd.prog.wantsStandIn t = false := by
          intro t ht
          simp only [List.mem_cons, List.not_mem_nil, or_false] at ht
          rcases ht with rfl | rfl <;> kernel_rfl
        exact hall t (List.mem_of_getElem? (by simpa using ht))⟩)
    (by kernel_rfl)
#print axioms shaEdges_card_holds
end Go.Proofs.YtjlkakggmfmfiaaDoor
