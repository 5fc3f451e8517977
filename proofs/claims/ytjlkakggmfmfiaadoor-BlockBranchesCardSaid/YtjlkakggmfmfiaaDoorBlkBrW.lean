/- tailracelaw08.BlockBranches: whatever digests and place, with the right tables, it returns true: what stands beside the way is that of the document, and with it the digest comes to the root. -/
import Derived.Test.YtjlkakggmfmfiaaDoorRoot08
import Derived.Test.YtjlkakggmfmfiaaDoorBranch08
import Derived.Test.YtjlkakggmfmfiaaDoorClimb
import Derived.Test.YtjlkakggmfmfiaaDoorDoor
set_option maxRecDepth 100000
set_option linter.unusedVariables false
namespace Go.Proofs.YtjlkakggmfmfiaaDoor
open Go Go.RowKit
theorem wf64b {x : Int} (h : (Lit.int .i64 x).wf = true) : -9223372036854775808 ≤ x ∧ x ≤ 9223372036854775807 := by
  simp [Lit.wf, IntKind.min, IntKind.max, IntKind.signed, IntKind.bits] at h
  omega
theorem branchF_length : ∀ (n : Nat) (l : List (List Int)) (i : Nat), l.length ≤ n → (branchF l i).length ≤ n
  | 0, l, i, hn => by rw [branchF_end l i (by omega)]; simp
  | n + 1, l, i, hn => by
    rcases Nat.lt_or_ge 1 l.length with h1 | h1
    · rw [branchF_up l i h1, List.length_cons]
      have := branchF_length n (upF l) (i / 2) (by rw [upF_length]; omega)
      omega
    · rw [branchF_end l i h1]; simp
set_option maxHeartbeats 2000000 in
theorem blockBranches_walk (w : World) (hT : Tabs w) (A : Option Addr) (n c : Nat) (ids : List (List Int)) (hnc : n ≤ c) (hcm : c ≤ maxLen) (hC0 : hashK.C (· < w.heap.size) w A n ids) (at_ : Int) (hwf : (Lit.int .i64 at_).wf = true) :
    Calls Tryd.prog 8 #[.slice A n c, .int .i64 at_] w fun e w' => e = .returned (.bool true) ∧ Below w.heap.size w w' := by
  have hC := HC.of hC0
  have hl := hC.len
  have hd := HC.digs hC
  obtain ⟨ha0, ha1⟩ := wf64b hwf
  have hU2 := Tryd.underlying25
  have hU3 := Tryd.underlying24
  have HL := Lib.hid hl
  clear hl hC0 hwf
  go_enter Tryd.func8, Tryd.ntmps8
  go_wp2_with fail
  refine (head08_calls _ hT).mono ?_
  rintro e w1 ⟨rfl, b01⟩
  have hT1 := hT.below b01
  by_cases hn : 12 < n
  · have hn' : (12 : Int) < (n : Int) := by omega
    go_wp2
    go_ret
    exact ⟨rfl, b01⟩
  · have hn' : ¬ (12 : Int) < (n : Int) := by omega
    have hnm : n ≤ maxLen := Nat.le_trans hnc hcm
    by_cases hbad : at_ < 0 ∨ (n : Int) ≤ at_
    · go_wp2_with fail
      refine (branch_bad _ A n c at_ hnm hbad).mono ?_
      rintro e w' ⟨rfl, rfl⟩
      by_cases h0 : at_ < 0
      · clear hbad
        go_wp2
        go_ret
        exact ⟨rfl, b01⟩
      · have h1 : (n : Int) ≤ at_ := by omega
        clear hbad
        go_wp2
        go_ret
        exact ⟨rfl, b01⟩
    · obtain ⟨i, rfl⟩ := Int.eq_ofNat_of_zero_le (a := at_) (by omega)
      have hi : i < n := by omega
      have hi0 : ¬ (i : Int) < 0 := by omega
      have hi1 : ¬ (n : Int) ≤ (i : Int) := by omega
      have hi2 : (0 : Int) ≤ (i : Int) := by omega
      have hi3 : (i : Int) < (n : Int) := by omega
      have hC1 := RK.C.below hC b01
      clear hbad
      go_wp2_with fail
      refine (branch_calls _ hT1 A n c ids hnc (by omega) hC1 i hi).mono ?_
      rintro e w2 ⟨A2, m, c2, rfl, hO2, b12⟩
      have hT2 := hT1.below b12
      have hC2 := RK.C.below hC1 b12
      have b02 := below_then b01 b01.size b12
      have hG2 := HOwn.C hO2
      have hle2 := RK.Own.le_ hO2
      have hgd := HC.digs hG2
      have hml : (branchF ids i).length = m := hO2.len
      have HML := Lib.hid hml
      have hm12 : m ≤ 12 := by have := branchF_length n ids i (by rw [HL.out]; exact Nat.le_refl _); omega
      clear hT1 hC1 b01 b12 hO2 hml
      go_wp2_with fail
      refine (make_calls _).mono ?_
      rintro e w3 ⟨rfl, b23⟩
      have hT3 := hT2.below b23
      have hC3 := RK.C.below hC2 b23
      have hG3 := RK.C.below hG2 b23
      have b03 := below_then b02 b02.size b23
      clear hT2 hC2 hG2 b02 b23
      go_wp2_with fail
      refine (raw_calls _ A n c ids hnc (by omega) hC3).mono ?_
      rintro e w4 ⟨A4, c4, rfl, hO4, b34⟩
      have hT4 := hT3.below b34
      have hC4 := RK.C.below hC3 b34
      have hG4 := RK.C.below hG3 b34
      have hM4 := HOwn.C hO4
      have hle4 := RK.Own.le_ hO4
      have b04 := below_then b03 b03.size b34
      clear hT3 hC3 hG3 b03 b34 hO4
      go_wp2_with fail
      refine (branch08_calls _ A4 n c4 ids hle4.1 hle4.2 (by omega) hM4 i hi).mono ?_
      rintro e w5 ⟨A5, c5, rfl, hO5, b45⟩
      rw [HML.out] at hO5 ⊢
      have hT5 := hT4.below b45
      have hC5 := RK.C.below hC4 b45
      have hG5 := RK.C.below hG4 b45
      have hW5 := HOwn.C hO5
      have b05 := below_then b04 b04.size b45
      clear hT4 hC4 hG4 hM4 b04 b45 hO5
      have hmm : ((m : Int) != (m : Int)) = false := by simp
      go_wp2
      go_loopw [51] (fun v wr => ∃ k : Nat, k ≤ m ∧ v = .int .i64 k ∧ Below w5.heap.size w5 wr) (fun v _ => m - (intOf v).toNat)
      case atStart => exact ⟨0, by omega, rfl, Below.refl _ _⟩
      case round =>
        obtain ⟨k, hk, rfl, hB⟩ := hrel
        by_cases hlt : k < m
        · have hlt' : (k : Int) < (m : Int) := by omega
          have hk0 : (0 : Int) ≤ (k : Int) := by omega
          have hx := (dg_dig hgd k (by rw [HML.out]; exact hlt)).1
          obtain ⟨b, o, rfl, hbw, hr⟩ := HC.addr (RK.C.below hG5 hB) (by omega)
          obtain ⟨b2, o2, rfl, hbw2, hr2⟩ := HC.addr (RK.C.below hW5 hB) (by omega)
          have rx := hr k hlt
          have ry := hr2 k hlt
          have i1 := ilen_hash (dg (branchF ids i) k) hx
          have i2 := ilen_a32 (dg (branchF ids i) k) hx
          have q1 := eq_digests (dg (branchF ids i) k) (dg (branchF ids i) k) hx hx rfl
          clear hr hr2
          go_upto_region 14 with fail
          refine wp_region_quiet_lit (by kernel_rfl) (by kernel_rfl) ?_
          repeat (any_goals (first | (refine wpQuiet_load_mid rfl 25 (.tmp 56) rfl b (o + k * 32) rfl (nums .u8 (dg (branchF ids i) k)) _ rx hU2 rfl i1 ?_) | (refine wpQuiet_load_mid rfl 24 (.tmp 60) rfl b2 (o2 + k * 32) rfl (nums .u8 (dg (branchF ids i) k)) _ ry hU3 rfl i2 ?_) | go_big_quiet_step (fail) | quiet_step (fail)))
          refine wpQuiet_nil ?_
          rintro _ ⟨nq, rfl⟩
          clear q1
          go_wp2
          go_roundw
          case rel => exact ⟨k + 1, by omega, by go_num, below_drewN hB _⟩
          case measure => simp [intOf]; omega
        · have hlt' : ¬ (k : Int) < (m : Int) := by omega
          obtain rfl : k = m := by omega
          have hTr := hT5.below hB
          have hCr := RK.C.below hC5 hB
          have hGr := RK.C.below hG5 hB
          have hB0 := below_then b05 b05.size hB
          have hxi := dg_dig hd i (by rw [HL.out]; exact hi)
          obtain ⟨b, o, rfl, hbw, hr⟩ := HC.addr hCr (by omega)
          have rx := hr i hi
          have i1 := ilen_hash (dg ids i) hxi.1
          have hR := (rootF_dig _ ids (Nat.le_refl _) hd).1
          have hcl := climb_root _ ids i (Nat.le_refl _) (by rw [HL.out]; exact hi)
          have q1 := eq_digests (climbF (dg ids i) i (branchF ids i)) (rootF ids) (by rw [hcl]; exact hR) hR hcl
          clear hT5 hC5 hG5 hW5 hr hcl b05 hB
          go_wp2_with (first | (refine wpList_load_mid rfl 25 (.tmp 66) rfl b (o + i * 32) rfl (nums .u8 (dg ids i)) _ rx hU2 rfl i1 ?_))
          refine (climb_calls _ hTr (dg ids i) hxi i (by omega) (by omega) A2 k c2 (branchF ids i) hle2.1 (by omega) hGr).mono ?_
          rintro e w6 ⟨rfl, b6⟩
          have hT6 := hTr.below b6
          have hC6 := RK.C.below hCr b6
          have b06 := below_then hB0 hB0.size b6
          clear hTr hCr hGr hB0 b6 rx
          go_wp2_with fail
          refine (blkroot_calls _ hT6 _ n c ids hnc (by omega) hC6).mono ?_
          rintro e w7 ⟨rfl, b7⟩
          have b07 := below_then b06 b06.size b7
          clear hT6 hC6 b06 b7
          go_wp2
          go_ret
          exact ⟨rfl, b07⟩
end Go.Proofs.YtjlkakggmfmfiaaDoor
