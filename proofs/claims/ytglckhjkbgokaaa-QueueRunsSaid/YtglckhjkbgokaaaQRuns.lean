/- tailracelaw22.QueueRuns: whatever number and steps, it returns true: whatever is put and taken, every answer is that of a list. -/
import Derived.Test.YtglckhjkbgokaaaQHead
import Derived.Test.YtglckhjkbgokaaaQReg
import Derived.Test.YtglckhjkbgokaaaMask
import Derived.Test.YtglckhjkbgokaaaMore
import Derived.Test.YtglckhjkbgokaaaFrame
import Derived.Test.YtglckhjkbgokaaaKinds
import Derived.Test.YtglckhjkbgokaaaRows
import Derived.BigQuiet
import Derived.Deep.RegionHeld3
import Derived.Deep.CutBlock
import Derived.Deep.DeepCutAuto
set_option maxRecDepth 100000
set_option linter.unusedVariables false
namespace Go.Proofs.Ytglckhjkbgokaaa
open Go Go.RowKit
abbrev opK : RK (Int × Int) := RK.pair (RK.int .i64) (RK.int .i64)
abbrev listK : RK Int := RK.int .i64
abbrev Off (q c : Nat) (k : Nat) : Prop := k ≠ q ∧ k ≠ c
/-- What holds at each round's head. -/
theorem C_of_own {w : World} {base n c : Nat} {e : TypeId} {A : Option Addr} {xs : List Int} {S : Nat → Prop} (h : w.ownsRow base e 1 (.slice A n c) n (nums .i64 xs)) (hr : ∀ x ∈ xs, IntKind.i64.min ≤ x ∧ x ≤ IntKind.i64.max) (hS : ∀ k, base ≤ k → S k) : listK.C S w A n xs ∧ n ≤ c ∧ c ≤ maxLen := by
  have hl : xs.length = n := by have := h.1; rwa [nums_length, Nat.mul_one] at this
  rcases h.2 with ⟨hv, hx⟩ | ⟨g, cap, cur, hv, hg, hh, h3, h4, h5, h6⟩
  · injection hv with e1 e2 e3
    subst e1 e2 e3
    obtain rfl : xs = [] := List.eq_nil_of_length_eq_zero hl
    exact ⟨RK.C.nil _ _ _ _, Nat.le_refl _, Nat.zero_le _⟩
  · injection hv with e1 e2 e3
    subst e1 e3
    refine ⟨⟨hl, fun hn => ⟨g, 0, rfl, hS g hg, (Array.getElem?_eq_some_iff.1 hh).1, fun i x hx => ⟨[.int .i64 x], ⟨rfl, hr x (List.mem_of_getElem? hx)⟩, fun j v hv => ?_⟩⟩⟩, h3, h4⟩
    have hj : j = 0 := by have := (List.getElem?_eq_some_iff.1 hv).1; simp at this; omega
    subst hj
    simp at hv
    subst hv
    have := h.cells (g := g) rfl i (.int .i64 x) (by simp [nums, hx])
    rw [add_plain] at this
    simpa [RK.int] using this
theorem C_two {w w1 : World} {q c n : Nat} {A : Option Addr} {xs : List Int} (h : listK.C (Off q c) w A n xs) (hT : Two w w1 q c) : listK.C (Off q c) w1 A n xs := h.move fun k hk hlt => hT.block k hlt hk.1 hk.2
/-- What holds at each round's head. -/
def RunsAt (most q c : Nat) (w1 : World) (v9 v10 v11 : Value) (wr : World) : Prop :=
  ∃ (xs : List Int) (A : Option Addr) (L c' : Nat) (cl lo : Bool), (cl = true → xs = []) ∧ v9 = .slice A L c' ∧ v10 = .bool cl ∧ v11 = .bool lo ∧ L ≤ c' ∧ c' ≤ maxLen ∧ L ≤ most ∧ listK.C (Off q c) wr A L xs ∧ QSI wr q c most xs cl lo ∧ Two w1 wr q c
set_option maxHeartbeats 4000000 in
theorem queueRuns_walk (w : World) (x : Int) (A : Option Addr) (n c0 : Nat) (ops : List (Int × Int)) (hnc : n ≤ c0) (hcm : c0 ≤ maxLen) (hC : opK.C (· < w.heap.size) w A n ops) :
    Calls Try.prog 8 #[.int .i64 x, .slice A n c0] w fun e w' => e = .returned (.bool true) ∧ Below w.heap.size w w' := by
  unfold maxLen at hcm
  go_enter Try.func8, Try.ntmps8
  go_wp2_with fail
  refine (qhead_calls _).mono ?_
  rintro e w0 ⟨rfl, hb0⟩
  have hs0 := hb0.size
  by_cases hbad : x < 1 ∨ 1000 < x
  · go_wp2_with fail
    refine (new_badI x _ hbad).mono ?_
    rintro e w' ⟨rfl, rfl⟩
    by_cases h1 : x < 1
    all_goals
      (try have h2 : 1000 < x := by omega)
      clear hbad
      go_wp2_with fail
      refine (take_nil'I _).mono ?_
      rintro e w' ⟨rfl, rfl⟩
      go_wp2_with fail
      refine (close_nil'I _).mono ?_
      rintro e w' ⟨rfl, rfl⟩
      go_wp2_with fail
      refine (put_nil'I 1 _).mono ?_
      rintro e w' ⟨rfl, rfl⟩
      go_wp2_with fail
      refine (all_nil'I _).mono ?_
      rintro e w' ⟨rfl, rfl⟩
      go_wp2_with fail
      refine (closed_nil'I _).mono ?_
      rintro e w' ⟨rfl, rfl⟩
      go_wp2_with fail
      refine (lost_nil'I _).mono ?_
      rintro e w' ⟨rfl, rfl⟩
      go_wp2_with fail
      refine (len_nil'I _).mono ?_
      rintro e w' ⟨rfl, rfl⟩
      go_wp2
      go_ret
      exact ⟨rfl, hb0⟩
  · obtain ⟨most, rfl⟩ := Int.eq_ofNat_of_zero_le (a := x) (by omega)
    have h1 : 1 ≤ most := by omega
    have h2 : most ≤ 1000 := by omega
    clear hbad
    go_wp2_with fail
    refine (new_okI most _ h1 h2).mono ?_
    rintro e w1 ⟨q, c, rfl, hq, hc, hQ, hb1⟩
    have hb := below_then hb0 hs0 hb1
    have hs1 := hb1.size
    clear hb0 hb1
    have b1 : ¬ (most : Int) < 1 := by omega
    have b2 : ¬ (1000 : Int) < (most : Int) := by omega
    have hQ0 := hQ.alloc (.cells #[] 3)
    have hT0 := (Two.refl w1 q c).alloc (.cells #[] 3)
    clear hQ
    go_wp2
    go_loopw [9, 10, 11, 12] (fun v9 v10 v11 v12 wr => ∃ i : Nat, i ≤ n ∧ i ≤ 80 ∧ v12 = .int .i64 i ∧ RunsAt most q c w1 v9 v10 v11 wr) (fun _ _ _ v _ => n - (intOf v).toNat)
    case atStart => exact ⟨0, by omega, by omega, rfl, [], _, 0, 0, false, false, fun _ => rfl, rfl, rfl, rfl, Nat.le_refl _, by decide, by omega, RK.C.nil _ _ _ _, hQ0, hT0⟩
    case round =>
      clear hQ0 hT0
      obtain ⟨i, hi, hi80, rfl, hR⟩ := hrel
      by_cases hlt : i < n ∧ i < 80
      · obtain ⟨hlt, hlt80⟩ := hlt
        have hlt' : (i : Int) < (n : Int) := by omega
        have hlt8' : (i : Int) < 80 := by omega
        have hi0 : (0 : Int) ≤ (i : Int) := by omega
        obtain ⟨xs, A1, L, c1, cl, lo, hclx, rfl, rfl, rfl, hLc, hc1, hLm, hL, hQ, hT⟩ := hR
        unfold maxLen at hc1
        have HCL := Lib.hid hclx
        clear hclx
        have hb2 := hT.below hb (by omega) (by omega) (by omega)
        obtain ⟨b, o, cs, ⟨kk, nn⟩, rfl, hx, ⟨_, _, rfl, ⟨rfl, hk1⟩, ⟨rfl, hn1⟩⟩, hcell⟩ := (hC.below hb2).get i hlt
        have hcA := hcell 0 _ rfl
        have hcB := hcell 1 _ rfl
        rw [show opK.sz = 2 from rfl, Nat.add_zero] at hcA
        rw [show opK.sz = 2 from rfl] at hcB
        clear hcell hx
        have hk2 : -9223372036854775808 ≤ kk ∧ kk ≤ 9223372036854775807 := hk1
        have hn2 : -9223372036854775808 ≤ nn ∧ nn ≤ 9223372036854775807 := hn1
        go_upto_region 17 with fail
        have hg := heap_alloc_new wr (.cells #[.int .i64 kk, .int .i64 nn] 54)
        have hL1 := hL.below ((Below.refl _ _).alloc (Nat.le_refl _) (.cells #[.int .i64 kk, .int .i64 nn] 54))
        have hQ1 := hQ.alloc (.cells #[.int .i64 kk, .int .i64 nn] 54)
        have hT1 := hT.alloc (.cells #[.int .i64 kk, .int .i64 nn] 54)
        have hgs : w1.heap.size ≤ wr.heap.size := hT.size
        obtain ⟨g, hgg⟩ : ∃ g, g = wr.heap.size := ⟨_, rfl⟩
        rw [← hgg] at hg hgs ⊢
        refine wp_gen (q := fun wo => wo.heap[g]? = some (.cells #[.int .i64 kk, .int .i64 nn] 54 (0, 0)) ∧ listK.C (Off q c) wo A1 L xs ∧ QSI wo q c most xs cl lo ∧ Two w1 wo q c) ⟨hg, hL1, hQ1, hT1⟩ (fun wo ho => ?_)
        clear hg hL1 hQ1 hT1 hgg hL hQ hT hcA hcB hb2
        obtain ⟨hg, hL, hQ, hT⟩ := ho
        have hcA : wo.cell? ⟨g, 0, none⟩ = some (.int .i64 kk) := blk_cell hg rfl
        have hcB : wo.cell? ⟨g, 1, none⟩ = some (.int .i64 nn) := blk_cell hg rfl
        go_upto_block 2 with (fail)
        go_cut [9, 10, 11] (fun v9 v10 v11 wd => RunsAt most q c w1 v9 v10 v11 wd)
        case first =>
          by_cases k0 : kk = 0
          · obtain rfl := k0
            cases cl with
            | true =>
              go_wp2_with fail
              refine (put_closed'I nn hQ).mono ?_
              rintro e w' ⟨rfl, rfl⟩
              go_wp2
              go_meet
              case rel => exact ⟨xs, A1, L, c1, true, lo, fun _ => HCL.out trivial, rfl, rfl, rfl, hLc, by unfold maxLen; omega, hLm, hL, hQ, hT⟩
            | false =>
              by_cases hfull : L = most
              · have hfl : ((L : Int) == (most : Int)) = true := by rw [hfull]; exact beq_self_eq_true _
                have hxl := hL.len
                go_wp2_with fail
                refine (put_full'I nn hQ (by rw [hxl]; unfold maxLen; omega) (by rw [hxl]; omega)).mono ?_
                rintro e w2 ⟨rfl, hQ2, hT2⟩
                go_wp2
                go_meet
                case rel => exact ⟨[], none, 0, 0, true, true, fun _ => rfl, rfl, rfl, rfl, Nat.le_refl _, by unfold maxLen; omega, by omega, RK.C.nil _ _ _ _, hQ2, hT.trans hT2⟩
              · have hfl : ((L : Int) == (most : Int)) = false := by rw [beq_eq_false_iff_ne]; omega
                go_upto_region 20 with fail
                have hrd := hL.rd_int
                have hlt1 := heap_lt hg
                have hws := hT.size
                refine region20 w1 wo A1 L c1 g xs nn _ hcB hlt1 hrd (by omega) hws ?_
                intro x95 x96 x97 x98 x99 x100 x101 A3 c3 w3 hown3 hbel3
                have hQ3 := hQ.below hbel3
                have hT3 := hT.trans (Two.of_below hbel3 q c)
                have hc3 : w3.cell? ⟨g, 1, none⟩ = some (.int .i64 nn) := cell_below hbel3 hcB
                have hxl := hL.len
                have hlt2 := hQ.lt
                have hC3 := C_of_own hown3 (by
                  intro z hz
                  rcases List.mem_append.1 hz with hz | hz
                  · exact hL.range_int z hz
                  · obtain rfl := List.mem_singleton.1 hz
                    exact hn1) (S := Off q c) (fun k hk => ⟨by omega, by omega⟩)
                have HC := Lib.hid hC3
                clear hQ hT hL hrd hg hcA hcB hC3 hown3
                go_wp2_with fail
                refine (put_room'I nn hQ3 (by omega)).mono ?_
                rintro e w4 ⟨rfl, hQ4, hT4⟩
                go_wp2
                go_meet
                case rel => exact ⟨xs ++ [nn], A3, L + 1, c3, false, lo, (fun h => nomatch h), rfl, rfl, rfl, HC.out.2.1, HC.out.2.2, by omega, C_two HC.out.1 hT4, hQ4, hT3.trans hT4⟩
          · have k0' : (kk == 0) = false := by rw [beq_eq_false_iff_ne]; exact k0
            by_cases k1 : kk = 1
            · obtain rfl := k1
              cases xs with
              | nil =>
                obtain rfl : L = 0 := hL.len.symm
                go_wp2_with fail
                refine (take_none'I hQ).mono ?_
                rintro e w' ⟨rfl, rfl⟩
                go_wp2
                go_meet
                case rel => exact ⟨[], A1, 0, c1, cl, lo, fun _ => rfl, rfl, rfl, rfl, hLc, by unfold maxLen; omega, by omega, hL, hQ, hT⟩
              | cons y ys =>
                have hxl : ys.length + 1 = L := hL.len
                have hpos : (0 : Int) < (L : Int) := by omega
                have hpos2 : 0 < L := by omega
                go_wp2_with fail
                refine (take_some'I hQ).mono ?_
                rintro e w2 ⟨rfl, hQ2, hT2⟩
                have hL2 := C_two hL hT2
                have hT3 := hT.trans hT2
                have hcut := hL2.drop_ 1 c1 (by omega) hLc
                rw [show listK.sz = 1 from rfl, Nat.one_mul, List.drop_succ_cons, List.drop_zero] at hcut
                obtain ⟨b4, o4, hA4, hc4⟩ := hL2.rd_int.addr hpos2
                have hc5 := hc4 0 hpos2
                rw [Nat.add_zero, show rd (y :: ys) 0 = y from rfl] at hc5
                obtain rfl := hA4
                have HCUT := Lib.hid hcut
                have hcl : cl = false := by cases cl with
                  | true => exact absurd (HCL.out rfl) (by simp)
                  | false => rfl
                obtain rfl := hcl
                have hl1 : 1 ≤ L := by omega
                have hl1' : (1 : Int) ≤ (L : Int) := by omega
                have hl2' : (L : Int) ≤ (c1 : Int) := by omega
                clear hcut hc4 hL hQ hT hL2 hT2
                by_cases hce : c1 = 1
                · have hcut := HCUT.out
                  rw [if_pos hce] at hcut
                  have HC2 := Lib.hid hcut
                  clear hcut HCUT
                  subst hce
                  obtain rfl : L = 1 := by omega
                  go_wp2
                  go_meet
                  case rel => exact ⟨ys, some ⟨b4, o4, none⟩, 0, 0, false, lo, (fun h => nomatch h), rfl, rfl, rfl, by omega, by unfold maxLen; omega, by omega, HC2.out, hQ2, hT3⟩
                · have hcut := HCUT.out
                  rw [if_neg hce, Option.map_some, add_plain'] at hcut
                  have HC2 := Lib.hid hcut
                  clear hcut HCUT
                  go_wp2
                  go_meet
                  case rel => exact ⟨ys, _, L - 1, c1 - 1, false, lo, (fun h => nomatch h), rfl, rfl, rfl, by omega, by unfold maxLen; omega, by omega, HC2.out, hQ2, hT3⟩
            · have k1' : (kk == 1) = false := by rw [beq_eq_false_iff_ne]; exact k1
              by_cases k2 : kk = 2
              · obtain rfl := k2
                have hxl := hL.len
                go_wp2_with fail
                refine (all'I hQ (by omega)).mono ?_
                rintro e w2 ⟨A4, c4, rfl, hQ2, hown2, hT2⟩
                rw [hxl] at hown2 ⊢
                have hg4 := Rd.of_own hown2
                have hr4 := (C_two hL hT2).rd_int
                have hT3 := hT.trans hT2
                have hLz : L ≤ 1000 := by omega
                clear hown2 hL hQ hT hT2 hg hcA hcB
                go_wp2
                go_loopw [18, 159] (fun v18 v159 wz => ∃ k : Nat, k ≤ L ∧ v159 = .int .i64 k ∧ Below w2.heap.size w2 wz) (fun _ v _ => L - (intOf v).toNat)
                case atStart => exact ⟨0, by omega, rfl, Below.refl _ _⟩
                case round =>
                  obtain ⟨k, hk, rfl, hB⟩ := hrel
                  by_cases hkL : k < L
                  · have hkL' : (k : Int) < (L : Int) := by omega
                    have hk0 : (0 : Int) ≤ (k : Int) := by omega
                    obtain ⟨b5, o5, rfl, hcell5⟩ := (hg4.below hB).at_ k hkL
                    obtain ⟨b6, o6, rfl, hcell6⟩ := (hr4.below hB).at_ k hkL
                    go_upto_region 43 with fail
                    go_quiet (fail)
                    go_wp2
                    go_roundw
                    case rel => exact ⟨k + 1, by omega, by go_num, below_drewN hB _⟩
                    case measure => simp [intOf]; omega
                  · obtain rfl : k = L := by omega
                    go_wp2
                    go_meet
                    case rel => exact ⟨[], none, 0, 0, cl, lo, fun _ => rfl, rfl, rfl, rfl, Nat.le_refl _, by unfold maxLen; omega, by omega, RK.C.nil _ _ _ _, hQ2.below hB, hT3.trans (Two.of_below hB q c)⟩
              · have k2' : (kk == 2) = false := by rw [beq_eq_false_iff_ne]; exact k2
                by_cases k3 : kk = 3
                · obtain rfl := k3
                  have hxl := hL.len
                  have hclose : Calls Try.prog 15 #[.pointer (some ⟨q, 0, none⟩)] wo fun e w' => e = .returned (.tuple #[]) ∧ QSI w' q c most [] true lo ∧ Two wo w' q c := by
                    cases cl with
                    | true =>
                      obtain rfl := HCL.out rfl
                      exact (close_closed'I hQ).mono fun e w' ⟨he, hw⟩ => ⟨he, hw ▸ hQ, hw ▸ Two.refl _ _ _⟩
                    | false => exact close_open'I hQ (by unfold maxLen; omega)
                  have HC := Lib.hid hclose
                  clear hclose
                  go_wp2_with fail
                  refine HC.out.mono ?_
                  rintro e w2 ⟨rfl, hQ2, hT2⟩
                  go_wp2
                  go_meet
                  case rel => exact ⟨[], none, 0, 0, true, lo, fun _ => rfl, rfl, rfl, rfl, Nat.le_refl _, by unfold maxLen; omega, by omega, RK.C.nil _ _ _ _, hQ2, hT.trans hT2⟩
                · have k3' : (kk == 3) = false := by rw [beq_eq_false_iff_ne]; exact k3
                  go_wp2
                  go_meet
                  case rel => exact ⟨xs, A1, L, c1, cl, lo, HCL.out, rfl, rfl, rfl, hLc, by unfold maxLen; omega, hLm, hL, hQ, hT⟩
        case rest =>
          clear hg hL hQ hT hcA hcB HCL
          obtain ⟨xs, A1, L, c1, cl, lo, hclx, rfl, rfl, rfl, hLc, hc1, hLm, hL, hQ, hT⟩ := hcut
          have HR := Lib.hid hclx
          have hxl := hL.len
          unfold maxLen at hc1
          have HC1 := Lib.hid hc1
          clear hclx hc1
          go_wp2_with fail
          refine (len'I hQ).mono ?_
          rintro e w' ⟨rfl, rfl⟩
          rw [hxl]
          go_wp2_with fail
          refine (closed'I hQ).mono ?_
          rintro e w' ⟨rfl, rfl⟩
          go_wp2_with fail
          refine (lost'I hQ).mono ?_
          rintro e w' ⟨rfl, rfl⟩
          go_wp2
          go_roundw
          case rel => exact ⟨i + 1, by omega, by omega, by go_num, xs, A1, L, c1, cl, lo, HR.out, rfl, rfl, rfl, hLc, HC1.out, hLm, hL, hQ, hT⟩
          case measure => simp [intOf]; omega
      · obtain ⟨xs, A1, L, c1, cl, lo, _, rfl, rfl, rfl, _, _, _, _, _, hT⟩ := hR
        have hb2 := hT.below hb (by omega) (by omega) (by omega)
        by_cases hin : i < n
        · have hin' : (i : Int) < (n : Int) := by omega
          have h80 : ¬ (i : Int) < 80 := by omega
          go_wp2
          go_ret
          exact ⟨rfl, hb2⟩
        · have hin' : ¬ (i : Int) < (n : Int) := by omega
          go_wp2
          go_ret
          exact ⟨rfl, hb2⟩

/-! ### the row -/
open Go.ChangeShapes Go.WideShapes Go.ChangeAt
theorem own : ownKnob Try.prog.godebug = none := by kernel_rfl
theorem laidOut : laidOutB Try.prog = true := by kernel_rfl
theorem queueRuns_lifted (os : Os) (started : os.Started) (H : Type) (enc : TypeId × Value → H) :
    ReturnsInHanded {} Try.checked os 8 .any (Rows.queueRunsSpec.pre6 enc Try.prog Try.f8 Rows.queueRunsRow.domain false) (Rows.queueRunsSpec.post enc Try.prog Try.f8 false true false false) := by
  refine returnsInHanded_of_change (C := Try.checked) own started (by kernel_rfl) Try.func8
    (ChangeSpec.witness6 (enc := enc) (C := Try.checked) false ⟨#[], #[.int .i64 0, .slice none 0 0], []⟩ 8 (by kernel_rfl) (by kernel_rfl) (by kernel_rfl) (by kernel_rfl)) ?_
  intro W base args ds gs before hval0 hW _ _
  have hval : ∀ (j : Nat) t v, Try.f8.params[j]? = some t → args[j]? = some v → Value.okWide Try.prog W .any base t v := hval0
  have hW' := hW
  obtain ⟨p, q, hA0, _, _, _, _⟩ := hW
  have hA : DataW.TrodAll enc Try.prog W 0 (fun _ => true) true Try.f8.params.toList args.toList ds p := hA0
  rw [Try.params8] at hA hval
  obtain ⟨v0, vs0, d0, ds0, p0, q0, hargs, rfl, rfl, h0, r0⟩ := trodAll_cons hA
  obtain ⟨v1, vs1, d1, ds1, p1, q1, rfl, rfl, rfl, h1, r1⟩ := trodAll_cons r0
  obtain ⟨rfl, rfl, rfl⟩ := trodAll_nil r1
  obtain rfl : args = #[v0, v1] := by cases args; simp_all
  obtain ⟨a0, rfl, rfl, rfl, w0⟩ := open_int Try.underlying3 (hval 0 3 v0 rfl rfl) h0
  obtain ⟨A1, n1, c1, a1, rfl, k1, m1, w1⟩ := open_slice Try.underlying52 (by kernel_rfl) (came_struct Try.underlying54 (by kernel_rfl) (cameF_cons rfl (came_int Try.underlying3 (by kernel_rfl)) (cameF_one rfl (came_int Try.underlying3 (by kernel_rfl))))) (hval 1 52 v1 rfl rfl) h1
  refine (queueRuns_walk W a0 A1 n1 c1 a1 k1 m1 w1).mono fun e W' ⟨he, bel⟩ => ⟨_, he, ?_⟩
  exact law_post (tb := 4) laidOut (by kernel_rfl) Try.underlying4 rfl rfl (fun ds h => match ds, h with | [d0, d1], _ => rfl) hW' bel
theorem queueRuns_over : Rows.queueRunsRow.holds Try.pinned (OpenSpec.ofChange Rows.queueRunsSpec) :=
  OpenClaim.holds_of_wide 8 Try.f8 rfl rfl rfl rfl rfl rfl rfl ⟨rfl, rfl, rfl, rfl, rfl⟩ rfl rfl rfl rfl rfl (by kernel_rfl) Try.func8 (by kernel_rfl)
    (of_decide_eq_true (by kernel_rfl)) (by unfold Func.isWrapper; first | (rw [if_pos (by decide +kernel)]; kernel_rfl) | (rw [if_neg (by decide +kernel)]; exact ⟨rfl, rfl⟩))
    (fun os started H enc _ => queueRuns_lifted os started H enc)
theorem queueRuns_holds : Rows.QueueRunsSaid := queueRuns_over
#print axioms queueRuns_holds
end Go.Proofs.Ytglckhjkbgokaaa
