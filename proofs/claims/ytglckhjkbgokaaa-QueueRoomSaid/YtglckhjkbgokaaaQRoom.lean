/- tailracelaw22.QueueRoom: whatever the number, it returns true: so many things wait, and no more. -/
import Derived.Test.YtglckhjkbgokaaaQHead
import Derived.Test.YtglckhjkbgokaaaMask
import Derived.Test.YtglckhjkbgokaaaFrame
import Derived.Test.YtglckhjkbgokaaaRows
set_option maxRecDepth 100000
set_option linter.unusedVariables false
namespace Go.Proofs.Ytglckhjkbgokaaa
open Go Go.RowKit
def upto (k : Nat) : List Int := (List.range k).map fun (i : Nat) => (i : Int)
theorem upto_succ (k : Nat) : upto (k + 1) = upto k ++ [(k : Int)] := by simp [upto, List.range_succ]
theorem upto_length (k : Nat) : (upto k).length = k := by simp [upto]
theorem upto_cons (k : Nat) (h : 0 < k) : ∃ zs, upto k = 0 :: zs ∧ zs.length + 1 = k := by
  obtain ⟨k, rfl⟩ : ∃ j, k = j + 1 := ⟨k - 1, by omega⟩
  refine ⟨(List.range k).map fun (i : Nat) => ((i + 1 : Nat) : Int), ?_, by simp⟩
  simp [upto, List.range_succ_eq_map, Function.comp_def]
set_option maxHeartbeats 1000000 in
theorem queueRoom_walk (x : Int) (w : World) : Calls Try.prog 7 #[.int .i64 x] w fun e w' => e = .returned (.bool true) ∧ Below w.heap.size w w' := by
  have hmask := i64_mask63 x
  obtain ⟨m, hm, hm0, hm1⟩ : ∃ m : Nat, 1 + x % 64 = (m : Int) ∧ 1 ≤ m ∧ m ≤ 64 := ⟨(1 + x % 64).toNat, by omega, by omega, by omega⟩
  have e0 : IntKind.i64.wrap (1 + x % 64) = (m : Int) := by rw [hm]; exact IntWalk.i64_in _ (by omega)
  have e1 : wrap64 (1 + x % 64) = (m : Int) := by rw [hm]; exact IntWalk.wrap64_in _ (by omega)
  go_enter Try.func7, Try.ntmps7
  go_wp2_with fail
  refine (qhead_calls _).mono ?_
  rintro e w0 ⟨rfl, hb0⟩
  have hs0 := hb0.size
  go_wp2_with fail
  refine (new_okI m _ hm0 (by omega)).mono ?_
  rintro e w1 ⟨q, c, rfl, hq, hc, hQ, hb1⟩
  have hb := below_then hb0 hs0 hb1
  clear hb0 hmask hm e0 e1
  have hs1 := hb1.size
  clear hb1
  go_wp2
  go_loopw [5] (fun v wr => ∃ k : Nat, k ≤ m ∧ v = .int .i64 k ∧ QSI wr q c m (upto k) false false ∧ Two w1 wr q c) (fun v _ => m - (intOf v).toNat)
  case atStart => exact ⟨0, by omega, rfl, hQ, Two.refl _ _ _⟩
  case round =>
    clear hQ
    obtain ⟨k, hk, rfl, hQ, hT⟩ := hrel
    by_cases hlt : k < m
    · go_wp2_with fail
      refine (put_room'I (k : Int) hQ (by rw [upto_length]; exact hlt)).mono ?_
      rintro e w2 ⟨rfl, hQ2, hT2⟩
      rw [← upto_succ] at hQ2
      go_wp2_with fail
      refine (len'I hQ2).mono ?_
      rintro e w' ⟨rfl, rfl⟩
      rw [upto_length]
      go_wp2
      go_roundw
      case rel => exact ⟨k + 1, by omega, by go_num, hQ2, hT.trans hT2⟩
      case measure => simp [intOf]; omega
    · obtain rfl : k = m := by omega
      obtain ⟨zs, hz, hzl⟩ := upto_cons k hm0
      rw [hz] at hQ
      have HZ := Lib.hid hzl
      clear hz hzl
      go_wp2_with fail
      refine (take_some'I hQ).mono ?_
      rintro e w2 ⟨rfl, hQ2, hT2⟩
      go_wp2_with fail
      refine (put_room'I 7 hQ2 (by have := HZ.out; omega)).mono ?_
      rintro e w3 ⟨rfl, hQ3, hT3⟩
      go_wp2_with fail
      refine (closed'I hQ3).mono ?_
      rintro e w' ⟨rfl, rfl⟩
      go_wp2_with fail
      refine (put_full'I 8 hQ3 (by have := HZ.out; simp [maxLen]; omega) (by have := HZ.out; simp; omega)).mono ?_
      rintro e w4 ⟨rfl, hQ4, hT4⟩
      go_wp2_with fail
      refine (closed'I hQ4).mono ?_
      rintro e w' ⟨rfl, rfl⟩
      go_wp2_with fail
      refine (lost'I hQ4).mono ?_
      rintro e w' ⟨rfl, rfl⟩
      go_wp2_with fail
      refine (len'I hQ4).mono ?_
      rintro e w' ⟨rfl, rfl⟩
      go_wp2_with fail
      refine (put_closed'I 9 hQ4).mono ?_
      rintro e w' ⟨rfl, rfl⟩
      go_wp2
      go_ret
      exact ⟨rfl, (((hT.trans hT2).trans hT3).trans hT4).below hb (by omega) (by omega) (by omega)⟩

/-! ### the row -/
open Go.ChangeShapes Go.WideShapes Go.ChangeAt
theorem own : ownKnob Try.prog.godebug = none := by kernel_rfl
theorem laidOut : laidOutB Try.prog = true := by kernel_rfl
theorem queueRoom_lifted (os : Os) (started : os.Started) (H : Type) (enc : TypeId × Value → H) :
    ReturnsInHanded {} Try.checked os 7 .any (Rows.queueRoomSpec.pre6 enc Try.prog Try.f7 Rows.queueRoomRow.domain false) (Rows.queueRoomSpec.post enc Try.prog Try.f7 false true false false) := by
  refine returnsInHanded_of_change (C := Try.checked) own started (by kernel_rfl) Try.func7
    (ChangeSpec.witness6 (enc := enc) (C := Try.checked) false ⟨#[], #[.int .i64 0], []⟩ 8 (by kernel_rfl) (by kernel_rfl) (by kernel_rfl) (by kernel_rfl)) ?_
  intro W base args ds gs before hval0 hW _ _
  have hval : ∀ (j : Nat) t v, Try.f7.params[j]? = some t → args[j]? = some v → Value.okWide Try.prog W .any base t v := hval0
  have hW' := hW
  obtain ⟨p, q, hA0, _, _, _, _⟩ := hW
  have hA : DataW.TrodAll enc Try.prog W 0 (fun _ => true) true Try.f7.params.toList args.toList ds p := hA0
  rw [Try.params7] at hA hval
  obtain ⟨v0, vs0, d0, ds0, p0, q0, hargs, rfl, rfl, h0, r0⟩ := trodAll_cons hA
  obtain ⟨rfl, rfl, rfl⟩ := trodAll_nil r0
  obtain rfl : args = #[v0] := by cases args; simp_all
  obtain ⟨a0, rfl, rfl, rfl, w0⟩ := open_int Try.underlying3 (hval 0 3 v0 rfl rfl) h0
  refine (queueRoom_walk a0 W).mono fun e W' ⟨he, bel⟩ => ⟨_, he, ?_⟩
  exact law_post (tb := 4) laidOut (by kernel_rfl) Try.underlying4 rfl rfl (fun ds h => match ds, h with | [d0], _ => rfl) hW' bel
theorem queueRoom_over : Rows.queueRoomRow.holds Try.pinned (OpenSpec.ofChange Rows.queueRoomSpec) :=
  OpenClaim.holds_of_wide 7 Try.f7 rfl rfl rfl rfl rfl rfl rfl ⟨rfl, rfl, rfl, rfl, rfl⟩ rfl rfl rfl rfl rfl (by kernel_rfl) Try.func7 (by kernel_rfl)
    (of_decide_eq_true (by kernel_rfl)) (by unfold Func.isWrapper; first | (rw [if_pos (by decide +kernel)]; kernel_rfl) | (rw [if_neg (by decide +kernel)]; exact ⟨rfl, rfl⟩))
    (fun os started H enc _ => queueRoom_lifted os started H enc)
theorem queueRoom_holds : Rows.QueueRoomSaid := queueRoom_over
#print axioms queueRoom_holds
end Go.Proofs.Ytglckhjkbgokaaa
