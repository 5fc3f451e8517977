/- tailracelaw22.QueueOrder: whatever texts and number, it returns true: things come out in the order in which they went in. -/
import Derived.Test.YtglckhjkbgokaaaQHead
import Derived.Test.YtglckhjkbgokaaaQueS
import Derived.Test.YtglckhjkbgokaaaMask
import Derived.Test.YtglckhjkbgokaaaMore
import Derived.Test.YtglckhjkbgokaaaFrame
import Derived.Test.YtglckhjkbgokaaaKinds
import Derived.Test.YtglckhjkbgokaaaRows
import Derived.BigQuiet
set_option maxRecDepth 100000
set_option linter.unusedVariables false
namespace Go.Proofs.Ytglckhjkbgokaaa
open Go Go.RowKit
def strs (xs : List ByteArray) : List Value := xs.map fun x => .string x
theorem take_str (xs : List ByteArray) (k : Nat) (h : k < xs.length) : xs.take (k + 1) = xs.take k ++ [xs[k]] := List.take_succ_eq_append_getElem h
theorem strs_append (xs ys : List ByteArray) : strs (xs ++ ys) = strs xs ++ strs ys := by simp [strs]
theorem strs_length (xs : List ByteArray) : (strs xs).length = xs.length := by simp [strs]
theorem strs_one (xs : List ByteArray) : ∀ u ∈ strs xs, u.oneCell' = true := by
  intro u hu
  obtain ⟨x, _, rfl⟩ := List.mem_map.1 hu
  rfl
theorem rd_strs {w : World} {A : Option Addr} {n : Nat} {xs : List ByteArray} (h : Rd w A n (strs xs)) (i : Nat) (hi : i < n) : ∃ b o, ∃ hx : i < xs.length, A = some ⟨b, o, none⟩ ∧ w.cell? ⟨b, o + i, none⟩ = some (.string xs[i]) := by
  obtain ⟨b, o, hA, hc⟩ := h.2 (by omega)
  have hl : i < xs.length := by have := h.1; rw [strs_length] at this; omega
  exact ⟨b, o, hl, hA, hc i _ (by simp [strs, hl])⟩
set_option maxHeartbeats 1000000 in
theorem queueOrder_walk (w : World) (A : Option Addr) (n c0 : Nat) (xs : List ByteArray) (hnc : n ≤ c0) (hcm : c0 ≤ maxLen) (hC : RK.str.C (· < w.heap.size) w A n xs) (x : Int) :
    Calls Try.prog 6 #[.slice A n c0, .int .i64 x] w fun e w' => e = .returned (.bool true) ∧ Below w.heap.size w w' := by
  have hr : Rd w A n (strs xs) := hC.rd_str
  have hl : xs.length = n := hC.len
  unfold maxLen at hcm
  clear hC
  have hmask := i64_mask7 x
  obtain ⟨m, hm, hm0, hm1⟩ : ∃ m : Nat, 1 + x % 8 = (m : Int) ∧ 1 ≤ m ∧ m ≤ 8 := ⟨(1 + x % 8).toNat, by omega, by omega, by omega⟩
  have e0 : IntKind.i64.wrap (1 + x % 8) = (m : Int) := by rw [hm]; exact IntWalk.i64_in _ (by omega)
  have e1 : wrap64 (1 + x % 8) = (m : Int) := by rw [hm]; exact IntWalk.wrap64_in _ (by omega)
  have HL := Lib.hid hl
  clear hl
  go_enter Try.func6, Try.ntmps6
  go_wp2_with fail
  refine (qhead_calls _).mono ?_
  rintro e w0 ⟨rfl, hb0⟩
  have hs0 := hb0.size
  by_cases hn : 100 < n
  · have hn' : (100 : Int) < (n : Int) := by omega
    go_wp2
    go_ret
    exact ⟨rfl, hb0⟩
  · have hn' : ¬ (100 : Int) < (n : Int) := by omega
    go_wp2_with fail
    refine (new_okS 200 _ (by decide) (by decide)).mono ?_
    rintro e w1 ⟨q, c, rfl, hq, hc, hQ, hb1⟩
    have hb := below_then hb0 hs0 hb1
    have hs1 := hb1.size
    clear hb0 hb1 hm e0 e1 hmask
    have hown := own_new (w := w1) (base := w1.heap.size) (e := 9) (strs []) (Nat.le_refl _) (by decide)
    have hQ0 := hQ.alloc (.cells (strs []).toArray 9)
    have hT0 := (Two.refl w1 q c).alloc (.cells (strs []).toArray 9)
    clear hQ
    go_wp2
    go_loopw [7, 30] (fun v7 v30 wr => ∃ (k t : Nat) (A' : Option Addr) (c' : Nat), k ≤ n ∧ t ≤ k ∧ v30 = .int .i64 k ∧ v7 = .slice A' t c' ∧ wr.ownsRow w1.heap.size 9 1 (.slice A' t c') t (strs (xs.take t)) ∧ QSS wr q c 200 ((xs.take k).drop t) false false ∧ Two w1 wr q c) (fun _ v _ => n - (intOf v).toNat)
    case atStart => exact ⟨0, 0, _, _, by omega, by omega, rfl, rfl, hown, hQ0, hT0⟩
    case round =>
      clear hQ0 hT0 hown
      obtain ⟨k, t, A', c', hk, ht, rfl, rfl, hown, hQ, hT⟩ := hrel
      by_cases hlt : k < n
      · have hlt' : (k : Int) < (n : Int) := by omega
        have hb2 := hT.below hb (by omega) (by omega) (by omega)
        obtain ⟨b, o, hx, rfl, hcell⟩ := rd_strs (hr.below hb2) k hlt
        have hq1 : (xs.take k).drop t ++ [xs[k]] = (xs.take (k + 1)).drop t := by
          rw [take_str xs k hx, List.drop_append_of_le_length (by rw [List.length_take]; omega)]
        have hlk : ((xs.take k).drop t).length < 200 := by rw [List.length_drop, List.length_take]; omega
        have hmz : (m : Int) ≠ 0 := by omega
        have HQ1 := Lib.hid hq1
        obtain ⟨y, hy⟩ : ∃ y, y = xs[k] := ⟨_, rfl⟩
        rw [← hy] at HQ1 hcell
        clear hy hx hq1
        go_wp2_with fail
        refine (put_room'S y hQ hlk).mono ?_
        rintro e w2 ⟨rfl, hQ2, hT2⟩
        rw [HQ1.out] at hQ2
        have hown2 := hT2.own hown (hQ.apart hown (by decide))
        have hT3 := hT.trans hT2
        clear hQ hown hT hT2 hb2 hcell hlk
        by_cases hrem : k % m = 0
        · have hrem' : ((k : Int) % (m : Int) == 0) = true := by rw [beq_iff_eq, ← Int.natCast_emod, hrem]; rfl
          have htl : t < (xs.take (k + 1)).length := by rw [List.length_take, HL.out]; omega
          rw [List.drop_eq_getElem_cons htl] at hQ2
          have hg : strs (xs.take t) ++ [.string ((xs.take (k + 1))[t])] = strs (xs.take (t + 1)) := by
            rw [take_str xs t (by rw [HL.out]; omega), strs_append]
            simp [strs]
          have HG := Lib.hid hg
          obtain ⟨z, hz⟩ : ∃ z, z = (xs.take (k + 1))[t] := ⟨_, rfl⟩
          rw [← hz] at HG hQ2
          clear hz hg htl hrem
          go_wp2_with fail
          refine (take_some'S hQ2).mono ?_
          rintro e w3 ⟨rfl, hQ3, hT4⟩
          have hown3 := hT4.own hown2 (hQ2.apart hown2 (by decide))
          have hT5 := hT3.trans hT4
          have hT5s := hT5.size
          clear hown2 hT3 hT4 hQ2
          go_wp2_with (first | (refine wpList_app _ rfl (.tmp 50) (.tmp 52) 42 rfl w1.heap.size 9 _ 16 Try.underlying42 infoAS rfl _ t (strs (xs.take t)) rfl (hown3.alloc _) _ 1 1 [.string z] rfl (Rd.of_block0 (heap_alloc_new _ _)) (by simp [Value.oneCell']) (by unfold maxLen; omega) (by omega) (by simp; omega) ?_; intro A2 c2 w4 hown4 hgrow4 hat4))
          have hQ4 := hQ3.alloc (.cells #[.string z] 9)
          have hne := hQ4.apart (hown3.alloc (.cells #[.string z] 9)) (by decide)
          have hQ5 := hQ4.grown hgrow4 (fun e => (hne _ e.symm).1 rfl) (fun e => (hne _ e.symm).2 rfl)
          have hT6 := (hT5.alloc (.cells #[.string z] 9)).grown hgrow4 (fun k hk => own_base (hown3.alloc (.cells #[.string z] 9)) k hk)
          clear hQ3 hQ4 hne hgrow4 hat4 hT5
          rw [HG.out] at hown4
          go_wp2
          go_roundw
          case rel => exact ⟨k + 1, t + 1, A2, c2, by omega, by omega, by go_num, rfl, hown4, hQ5, hT6⟩
          case measure => simp [intOf]; omega
        · have hrem' : ((k : Int) % (m : Int) == 0) = false := by rw [beq_eq_false_iff_ne, ← Int.natCast_emod]; omega
          clear hrem
          go_wp2
          go_roundw
          case rel => exact ⟨k + 1, t, A', c', by omega, by omega, by go_num, rfl, hown2, hQ2, hT3⟩
          case measure => simp [intOf]; omega
      · obtain rfl : k = n := by omega
        rw [List.take_of_length_le (by rw [HL.out]; omega)] at hQ
        have hdl : (xs.drop t).length = k - t := by rw [List.length_drop, HL.out]
        have HD := Lib.hid hdl
        have hall := strs_append (xs.take t) (xs.drop t)
        rw [List.take_append_drop] at hall
        have HA := Lib.hid hall
        clear hdl hall
        go_wp2_with fail
        refine (all'S hQ (by rw [HD.out]; omega)).mono ?_
        rintro e w2 ⟨A2, c2, rfl, hQ2, hown2, hT2⟩
        rw [HD.out] at hown2 ⊢
        have hown1 := hT2.own hown (hQ.apart hown (by decide))
        have hT3 := hT.trans hT2
        have hT3s := hT3.size
        clear hQ hown hT hT2
        go_wp2_with (first | (refine wpList_app _ rfl (.tmp 55) (.tmp 57) 42 rfl w1.heap.size 9 _ 16 Try.underlying42 infoAS rfl _ t (strs (xs.take t)) rfl hown1 _ _ _ (strs (xs.drop t)) rfl (Rd.of_own hown2) (strs_one _) (by unfold maxLen; omega) (by omega) (by omega) ?_; intro A3 c3 w3 hown3 hgrow3 hat3))
        have hT4 := hT3.grown hgrow3 (fun k hk => own_base hown1 k hk)
        rw [← HA.out, show t + (k - t) = k by omega] at hown3
        have hb3 := hT4.below hb (by omega) (by omega) (by omega)
        clear hown1 hown2 hgrow3 hat3 hT3 hT4 hQ2
        have hg3 := Rd.of_own hown3
        have hr3 := hr.below hb3
        clear hown3 hr
        have hkz : k ≤ 100 := by omega
        clear hn hn'
        go_wp2
        go_loopw [12, 66] (fun v12 v66 wr => ∃ i : Nat, i ≤ k ∧ v66 = .int .i64 i ∧ Below w3.heap.size w3 wr) (fun _ v _ => k - (intOf v).toNat)
        case atStart => exact ⟨0, by omega, rfl, Below.refl _ _⟩
        case round =>
          obtain ⟨i, hi, rfl, hB⟩ := hrel
          by_cases hik : i < k
          · have hik' : (i : Int) < (k : Int) := by omega
            have hi0 : (0 : Int) ≤ (i : Int) := by omega
            obtain ⟨b1, o1, hx1, rfl, hcell1⟩ := rd_strs (hg3.below hB) i hik
            obtain ⟨b2, o2, hx2, rfl, hcell2⟩ := rd_strs (hr3.below hB) i hik
            go_upto_region 27 with fail
            go_quiet (fail)
            go_wp2
            go_roundw
            case rel => exact ⟨i + 1, by omega, by go_num, below_drewN hB _⟩
            case measure => simp [intOf]; omega
          · obtain rfl : i = k := by omega
            have hb4 := below_then hb3 hb3.size hB
            go_wp2
            go_ret
            exact ⟨rfl, hb4⟩

/-! ### the row -/
open Go.ChangeShapes Go.WideShapes Go.ChangeAt
theorem own : ownKnob Try.prog.godebug = none := by kernel_rfl
theorem laidOut : laidOutB Try.prog = true := by kernel_rfl
theorem queueOrder_lifted (os : Os) (started : os.Started) (H : Type) (enc : TypeId × Value → H) :
    ReturnsInHanded {} Try.checked os 6 .any (Rows.queueOrderSpec.pre6 enc Try.prog Try.f6 Rows.queueOrderRow.domain false) (Rows.queueOrderSpec.post enc Try.prog Try.f6 false true false false) := by
  refine returnsInHanded_of_change (C := Try.checked) own started (by kernel_rfl) Try.func6
    (ChangeSpec.witness6 (enc := enc) (C := Try.checked) false ⟨#[], #[.slice none 0 0, .int .i64 0], []⟩ 8 (by kernel_rfl) (by kernel_rfl) (by kernel_rfl) (by kernel_rfl)) ?_
  intro W base args ds gs before hval0 hW _ _
  have hval : ∀ (j : Nat) t v, Try.f6.params[j]? = some t → args[j]? = some v → Value.okWide Try.prog W .any base t v := hval0
  have hW' := hW
  obtain ⟨p, q, hA0, _, _, _, _⟩ := hW
  have hA : DataW.TrodAll enc Try.prog W 0 (fun _ => true) true Try.f6.params.toList args.toList ds p := hA0
  rw [Try.params6] at hA hval
  obtain ⟨v0, vs0, d0, ds0, p0, q0, hargs, rfl, rfl, h0, r0⟩ := trodAll_cons hA
  obtain ⟨v1, vs1, d1, ds1, p1, q1, rfl, rfl, rfl, h1, r1⟩ := trodAll_cons r0
  obtain ⟨rfl, rfl, rfl⟩ := trodAll_nil r1
  obtain rfl : args = #[v0, v1] := by cases args; simp_all
  obtain ⟨A0, n0, c0, a0, rfl, k0, m0, w0⟩ := open_slice Try.underlying42 (by kernel_rfl) (came_str Try.underlying9 (by kernel_rfl)) (hval 0 42 v0 rfl rfl) h0
  obtain ⟨a1, rfl, rfl, rfl, w1⟩ := open_int Try.underlying3 (hval 1 3 v1 rfl rfl) h1
  refine (queueOrder_walk W A0 n0 c0 a0 k0 m0 w0 a1).mono fun e W' ⟨he, bel⟩ => ⟨_, he, ?_⟩
  exact law_post (tb := 4) laidOut (by kernel_rfl) Try.underlying4 rfl rfl (fun ds h => match ds, h with | [d0, d1], _ => rfl) hW' bel
theorem queueOrder_over : Rows.queueOrderRow.holds Try.pinned (OpenSpec.ofChange Rows.queueOrderSpec) :=
  OpenClaim.holds_of_wide 6 Try.f6 rfl rfl rfl rfl rfl rfl rfl ⟨rfl, rfl, rfl, rfl, rfl⟩ rfl rfl rfl rfl rfl (by kernel_rfl) Try.func6 (by kernel_rfl)
    (of_decide_eq_true (by kernel_rfl)) (by unfold Func.isWrapper; first | (rw [if_pos (by decide +kernel)]; kernel_rfl) | (rw [if_neg (by decide +kernel)]; exact ⟨rfl, rfl⟩))
    (fun os started H enc _ => queueOrder_lifted os started H enc)
theorem queueOrder_holds : Rows.QueueOrderSaid := queueOrder_over
#print axioms queueOrder_holds
end Go.Proofs.Ytglckhjkbgokaaa
