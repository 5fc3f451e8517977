/- tailracelaw22.QueueClose: whatever things and number, it returns true: a queue that is closed has nothing, and takes nothing, for good. -/
import Derived.Test.YtglckhjkbgokaaaQHead
import Derived.Test.YtglckhjkbgokaaaMask
import Derived.Test.YtglckhjkbgokaaaFrame
import Derived.Test.YtglckhjkbgokaaaKinds
import Derived.Test.YtglckhjkbgokaaaRows
set_option maxRecDepth 100000
set_option linter.unusedVariables false
namespace Go.Proofs.Ytglckhjkbgokaaa
open Go Go.RowKit
theorem take_rd (xs : List Int) (k : Nat) (h : k < xs.length) : xs.take (k + 1) = xs.take k ++ [rd xs k] := by
  rw [List.take_succ_eq_append_getElem h]
  simp [rd, List.getD_eq_getElem?_getD, h]
set_option maxHeartbeats 1000000 in
theorem queueClose_walk (w : World) (A : Option Addr) (n c0 : Nat) (xs : List Int) (hnc : n ≤ c0) (hcm : c0 ≤ maxLen) (hC : (RK.int .i64).C (· < w.heap.size) w A n xs) (x : Int) :
    Calls Try.prog 5 #[.slice A n c0, .int .i64 x] w fun e w' => e = .returned (.bool true) ∧ Below w.heap.size w w' := by
  have hr := hC.rd_int
  have hl : xs.length = n := hC.len
  unfold maxLen at hcm
  clear hC
  have hmask := i64_mask3 x
  obtain ⟨m, hm, hm1⟩ : ∃ m : Nat, x % 4 = (m : Int) ∧ m ≤ 3 := ⟨(x % 4).toNat, by omega, by omega⟩
  rw [hm] at hmask
  have HL := Lib.hid hl
  clear hm hl
  go_enter Try.func5, Try.ntmps5
  go_wp2_with fail
  refine (qhead_calls _).mono ?_
  rintro e w0 ⟨rfl, hb0⟩
  have hs0 := hb0.size
  by_cases hn : 50 < n
  · have hn' : (50 : Int) < (n : Int) := by omega
    go_wp2
    go_ret
    exact ⟨rfl, hb0⟩
  · have hn' : ¬ (50 : Int) < (n : Int) := by omega
    go_wp2_with fail
    refine (new_okI 60 _ (by decide) (by decide)).mono ?_
    rintro e w1 ⟨q, c, rfl, hq, hc, hQ, hb1⟩
    have hb := below_then hb0 hs0 hb1
    have hs1 := hb1.size
    clear hb0 hb1
    go_wp2
    go_loopw [25] (fun v wr => ∃ k : Nat, k ≤ n ∧ v = .int .i64 k ∧ QSI wr q c 60 (xs.take k) false false ∧ Two w1 wr q c) (fun v _ => n - (intOf v).toNat)
    case atStart => exact ⟨0, by omega, rfl, hQ, Two.refl _ _ _⟩
    case round =>
      clear hQ
      obtain ⟨k, hk, rfl, hQ, hT⟩ := hrel
      by_cases hlt : k < n
      · have hb2 := hT.below hb (by omega) (by omega) (by omega)
        obtain ⟨b, o, rfl, hcell⟩ := (hr.below hb2).at_ k hlt
        have hlt' : (k : Int) < (n : Int) := by omega
        have hk0 : k < xs.length := by rw [HL.out]; exact hlt
        have hlk : (xs.take k).length < 60 := by rw [List.length_take]; omega
        clear hk0
        go_wp2_with fail
        refine (put_room'I (rd xs k) hQ hlk).mono ?_
        rintro e w2 ⟨rfl, hQ2, hT2⟩
        rw [← take_rd xs k (by rw [HL.out]; exact hlt)] at hQ2
        go_wp2
        go_roundw
        case rel => exact ⟨k + 1, by omega, by go_num, hQ2, hT.trans hT2⟩
        case measure => simp [intOf]; omega
      · obtain rfl : k = n := by omega
        rw [List.take_of_length_le (by rw [HL.out]; omega)] at hQ
        have hxl : xs.length ≤ maxLen := by rw [HL.out]; unfold maxLen; omega
        have HX := Lib.hid hxl
        clear hr hxl
        go_wp2
        go_loopw [9] (fun v wq => ∃ j : Nat, j ≤ m + 1 ∧ v = .int .i64 j ∧ QSI wq q c 60 (if j = 0 then xs else []) (decide (0 < j)) false ∧ Two w1 wq q c) (fun v _ => m + 1 - (intOf v).toNat)
        case atStart => exact ⟨0, by omega, rfl, hQ, hT⟩
        case round =>
          clear hQ hT
          obtain ⟨j, hj, rfl, hQ, hT⟩ := hrel
          by_cases hjm : j ≤ m
          · have hjm' : (j : Int) ≤ (m : Int) := by omega
            have hclose : Calls Try.prog 15 #[.pointer (some ⟨q, 0, none⟩)] wr fun e w' => e = .returned (.tuple #[]) ∧ QSI w' q c 60 [] true false ∧ Two wr w' q c := by
              rcases Nat.eq_zero_or_pos j with rfl | h0
              · exact close_open'I hQ HX.out
              · rw [if_neg (by omega), decide_eq_true h0] at hQ
                exact (close_closed'I hQ).mono fun e w' ⟨he, hw⟩ => ⟨he, hw ▸ hQ, hw ▸ Two.refl _ _ _⟩
            have HC := Lib.hid hclose
            clear hclose hQ
            go_wp2_with fail
            refine HC.out.mono ?_
            rintro e w3 ⟨rfl, hQ3, hT3⟩
            go_wp2_with fail
            refine (take_none'I hQ3).mono ?_
            rintro e w' ⟨rfl, rfl⟩
            go_wp2_with fail
            refine (len'I hQ3).mono ?_
            rintro e w' ⟨rfl, rfl⟩
            go_wp2_with fail
            refine (closed'I hQ3).mono ?_
            rintro e w' ⟨rfl, rfl⟩
            go_wp2_with fail
            refine (lost'I hQ3).mono ?_
            rintro e w' ⟨rfl, rfl⟩
            go_wp2_with fail
            refine (put_closed'I 5 hQ3).mono ?_
            rintro e w' ⟨rfl, rfl⟩
            go_wp2_with fail
            refine (all'I hQ3 (by decide)).mono ?_
            rintro e w4 ⟨A4, k4, rfl, hQ4, hown4, hT4⟩
            go_wp2
            go_roundw
            case rel => exact ⟨j + 1, by omega, by go_num, by rw [if_neg (by omega), decide_eq_true (by omega)]; exact hQ4, (hT.trans hT3).trans hT4⟩
            case measure => simp [intOf]; omega
          · have hjm' : ¬ (j : Int) ≤ (m : Int) := by omega
            go_wp2
            go_ret
            exact ⟨rfl, hT.below hb (by omega) (by omega) (by omega)⟩

/-! ### the row -/
open Go.ChangeShapes Go.WideShapes Go.ChangeAt
theorem own : ownKnob Try.prog.godebug = none := by kernel_rfl
theorem laidOut : laidOutB Try.prog = true := by kernel_rfl
theorem queueClose_lifted (os : Os) (started : os.Started) (H : Type) (enc : TypeId × Value → H) :
    ReturnsInHanded {} Try.checked os 5 .any (Rows.queueCloseSpec.pre6 enc Try.prog Try.f5 Rows.queueCloseRow.domain false) (Rows.queueCloseSpec.post enc Try.prog Try.f5 false true false false) := by
  refine returnsInHanded_of_change (C := Try.checked) own started (by kernel_rfl) Try.func5
    (ChangeSpec.witness6 (enc := enc) (C := Try.checked) false ⟨#[], #[.slice none 0 0, .int .i64 0], []⟩ 8 (by kernel_rfl) (by kernel_rfl) (by kernel_rfl) (by kernel_rfl)) ?_
  intro W base args ds gs before hval0 hW _ _
  have hval : ∀ (j : Nat) t v, Try.f5.params[j]? = some t → args[j]? = some v → Value.okWide Try.prog W .any base t v := hval0
  have hW' := hW
  obtain ⟨p, q, hA0, _, _, _, _⟩ := hW
  have hA : DataW.TrodAll enc Try.prog W 0 (fun _ => true) true Try.f5.params.toList args.toList ds p := hA0
  rw [Try.params5] at hA hval
  obtain ⟨v0, vs0, d0, ds0, p0, q0, hargs, rfl, rfl, h0, r0⟩ := trodAll_cons hA
  obtain ⟨v1, vs1, d1, ds1, p1, q1, rfl, rfl, rfl, h1, r1⟩ := trodAll_cons r0
  obtain ⟨rfl, rfl, rfl⟩ := trodAll_nil r1
  obtain rfl : args = #[v0, v1] := by cases args; simp_all
  obtain ⟨A0, n0, c0, a0, rfl, k0, m0, w0⟩ := open_slice Try.underlying31 (by kernel_rfl) (came_int Try.underlying3 (by kernel_rfl)) (hval 0 31 v0 rfl rfl) h0
  obtain ⟨a1, rfl, rfl, rfl, w1⟩ := open_int Try.underlying3 (hval 1 3 v1 rfl rfl) h1
  refine (queueClose_walk W A0 n0 c0 a0 k0 m0 w0 a1).mono fun e W' ⟨he, bel⟩ => ⟨_, he, ?_⟩
  exact law_post (tb := 4) laidOut (by kernel_rfl) Try.underlying4 rfl rfl (fun ds h => match ds, h with | [d0, d1], _ => rfl) hW' bel
theorem queueClose_over : Rows.queueCloseRow.holds Try.pinned (OpenSpec.ofChange Rows.queueCloseSpec) :=
  OpenClaim.holds_of_wide 5 Try.f5 rfl rfl rfl rfl rfl rfl rfl ⟨rfl, rfl, rfl, rfl, rfl⟩ rfl rfl rfl rfl rfl (by kernel_rfl) Try.func5 (by kernel_rfl)
    (of_decide_eq_true (by kernel_rfl)) (by unfold Func.isWrapper; first | (rw [if_pos (by decide +kernel)]; kernel_rfl) | (rw [if_neg (by decide +kernel)]; exact ⟨rfl, rfl⟩))
    (fun os started H enc _ => queueClose_lifted os started H enc)
theorem queueClose_holds : Rows.QueueCloseSaid := queueClose_over
#print axioms queueClose_holds
end Go.Proofs.Ytglckhjkbgokaaa
