/- tailraceref03.root: the whole root, found by halving. -/
import Derived.Test.YtjlkakggmfmfiaaDoorLong
set_option maxRecDepth 100000
namespace Go.Proofs.YtjlkakggmfmfiaaDoor
open Go Go.RowKit
def ReadsAt (w : World) (g : Nat) (xs : List Int) (n : Nat) : Prop := ∀ i, i < n → w.cell? ⟨g, i, none⟩ = some (.int .u64 (rd xs i))
theorem ReadsAt.below {w w' : World} {g n : Nat} {xs : List Int} (h : ReadsAt w g xs n) (hb : Below w.heap.size w w') : ReadsAt w' g xs n := fun i hi => cell_below hb (h i hi)
structure Num (xs : List Int) (n : Nat) (v : Int) : Prop where
  len : xs.length = n
  parts : Parts xs
  val : valN xs n = v
theorem parts_num (m : Int) (w : World) (h0 : 0 ≤ m) (h1 : m < 281474976710656) :
    Calls Tryd.prog 85 #[.int .u64 m] w fun e w' => ∃ g c xs, e = .returned (.slice (some ⟨g, 0, none⟩) 3 c) ∧ Hid (Num xs 3 m) ∧ Hid (ReadsAt w' g xs 3) ∧ Below w.heap.size w w' := by
  refine (parts_calls m w h0 h1).mono ?_
  rintro e w' ⟨v, rfl, ⟨g, c, rfl, hc⟩, hb⟩
  have hp := parts_val m h0 h1
  exact ⟨g, c, [m % 65536, m / 65536 % 65536, m / 4294967296], rfl, Lib.hid ⟨rfl, hp.1, hp.2⟩, Lib.hid hc, hb⟩
theorem times_num (ga ca gb cb na nb L : Nat) (a b : List Int) (x y : Int) (w : World) (ha : Num a na x) (hb : Num b nb y) (hL : L = na + nb) (hna : 1 ≤ na) (hnb : 1 ≤ nb) (hLl : L ≤ 1000)
    (hca : ReadsAt w ga a na) (hcb : ReadsAt w gb b nb) :
    Calls Tryd.prog 84 #[.slice (some ⟨ga, 0, none⟩) na ca, .slice (some ⟨gb, 0, none⟩) nb cb] w fun e w' => ∃ g c xs, e = .returned (.slice (some ⟨g, 0, none⟩) L c) ∧ Hid (Num xs L (x * y)) ∧ Hid (ReadsAt w' g xs L) ∧ Below w.heap.size w w' := by
  obtain ⟨rfl, hpa, rfl⟩ := ha
  obtain ⟨rfl, hpb, rfl⟩ := hb
  refine (times_calls ga ca gb cb a b w hpa hpb hna hnb (by omega) hca hcb).mono ?_
  rintro e w' ⟨v, xs, rfl, ⟨g, c, rfl, hc⟩, hbel, hlen, hp, hv⟩
  rw [← hL] at hlen
  refine ⟨g, c, xs, by rw [hlen], Lib.hid ⟨hlen, hp, by rw [← hlen]; exact hv⟩, Lib.hid (by rw [← hlen]; exact hc), hbel⟩
theorem over_num (ga ca gb cb na nb : Nat) (a b : List Int) (x y : Int) (w : World) (ha : Num a na x) (hb : Num b nb y) (hna : 1 ≤ na) (hnb : 1 ≤ nb) (hna2 : na ≤ 1000) (hnb2 : nb ≤ 1000)
    (hca : ReadsAt w ga a na) (hcb : ReadsAt w gb b nb) :
    Calls Tryd.prog 86 #[.slice (some ⟨ga, 0, none⟩) na ca, .slice (some ⟨gb, 0, none⟩) nb cb] w fun e w' => e = .returned (.bool (decide (y < x))) ∧ w = w' := by
  obtain ⟨rfl, hpa, rfl⟩ := ha
  obtain ⟨rfl, hpb, rfl⟩ := hb
  refine (over_calls ga ca gb cb a b w hpa hpb hna hnb hna2 hnb2 hca hcb).mono ?_
  rintro e w' ⟨rfl, rfl⟩
  refine ⟨?_, rfl⟩
  rw [valN_len b _ (Nat.le_max_right _ _), valN_len a _ (Nat.le_max_left _ _)]
/-- The second or the third power. -/
def pw (k : Nat) (m : Int) : Int := if k = 3 then m * m * m else m * m
theorem pw2 (m : Int) : pw 2 m = m * m := rfl
theorem pw3 (m : Int) : pw 3 m = m * m * m := rfl
theorem most_num (k : Nat) (p : Int) (hp : 0 ≤ p ∧ p ≤ 65535) : Num (List.replicate (2 * k) 0 ++ [p]) (2 * k + 1) (p * PB ^ (2 * k)) := by
  have hz : ∀ j, j < 2 * k → rd (List.replicate (2 * k) 0 ++ [p]) j = 0 := fun j hj => by
    rw [rd_append_left _ _ _ (by simpa using hj)]
    unfold rd; simp [List.getD_eq_getElem?_getD, hj]
  refine ⟨by simp, ?_, ?_⟩
  · intro x hx
    rcases List.mem_append.1 hx with hx | hx
    · obtain rfl := List.eq_of_mem_replicate hx; omega
    · obtain rfl := List.mem_singleton.1 hx; exact hp
  · have h1 : rd (List.replicate (2 * k) 0 ++ [p]) (2 * k) = p := by
      rw [rd_append_right _ _ _ (by simp)]
      simp [rd]
    rw [valN, valN_zero _ _ hz, h1, Int.zero_add]
/-- The root's answer. -/
def RootOk (k : Nat) (p lo : Int) : Prop := 0 ≤ lo ∧ pw k lo ≤ p * PB ^ (2 * k) ∧ p * PB ^ (2 * k) < pw k (lo + 1)
set_option maxHeartbeats 1000000 in
theorem root_calls (p : Int) (k : Nat) (w : World) (hk : k = 2 ∨ k = 3) (h0 : 0 ≤ p) (h1 : p ≤ 1000) :
    Calls Tryd.prog 63 #[.int .u64 p, .int .i64 k] w fun e w' => ∃ lo, e = .returned (.int .u32 (lo % 4294967296)) ∧ RootOk k p lo ∧ Below w.heap.size w w' := by
  have hNum := Lib.hid (most_num k p ⟨h0, by omega⟩)
  have hstart : pw k 0 ≤ p * PB ^ (2 * k) ∧ p * PB ^ (2 * k) < pw k 137438953472 := by
    rcases hk with rfl | rfl
    · rw [pw2, pw2, show PB ^ (2 * 2) = 18446744073709551616 from rfl]; omega
    · rw [pw3, pw3, show PB ^ (2 * 3) = 79228162514264337593543950336 from rfl]; omega
  obtain ⟨N, hN⟩ : ∃ N, N = p * PB ^ (2 * k) := ⟨_, rfl⟩
  rw [← hN] at hstart hNum
  have HN := Lib.hid hN
  have HS := Lib.hid hstart
  have hk4 : k ≤ 3 := by omega
  have HK := Lib.hid hk
  clear hN hstart hk
  go_enter Tryd.func63, Tryd.ntmps63
  go_upto_region 3 with fail
  have hown0 : (w.alloc (.cells #[] 56)).ownsRow w.heap.size 56 1 (.slice (some ⟨w.heap.size, 0, none⟩) 0 0) 0 (nums .u64 []) := own_new [] (Nat.le_refl _) (by decide)
  have hb0 : Below w.heap.size w (w.alloc (.cells #[] 56)) := (Below.refl _ _).alloc (Nat.le_refl _) _
  go_loopw [5, 6] (fun v5 v6 wr => ∃ (i : Nat) (A : Option Addr) (c : Nat), i ≤ 2 * k ∧ v6 = .int .i64 i ∧ v5 = .slice A i c ∧ wr.ownsRow w.heap.size 56 1 v5 i (nums .u64 (List.replicate i 0)) ∧ Below w.heap.size w wr) (fun _ v _ => (2 * k - intOf v).toNat)
  case atStart => exact ⟨0, _, _, by omega, rfl, rfl, hown0, hb0⟩
  case round =>
    clear hown0 hb0
    obtain ⟨i, A, c, hi, rfl, rfl, hown, hbel⟩ := hrel
    by_cases hlt : i < 2 * k
    · have hlt' : (i : Int) < 2 * (k : Int) := by omega
      go_upto_region 5 with fail
      go_upto_region 4 with (first | (refine wpList_app _ rfl (.tmp 18) (.tmp 19) 177 rfl w.heap.size 56 _ 8 Tryd.underlying177 info64 rfl _ i (nums .u64 (List.replicate i 0)) rfl (hown.alloc _) _ 1 1 [.int .u64 0] rfl (Rd.of_block0 (heap_alloc_new _ _)) (nums_one .u64 [0]) (by unfold maxLen; omega) (by omega) (by have := hbel.size; simp; omega) ?_; intro A3 c3 w3 hown3 hgrow3 hat3))
      go_wp2
      go_roundw
      case rel =>
        refine ⟨i + 1, A3, c3, by omega, by go_num, rfl, ?_, (hbel.alloc hbel.size _).grown hgrow3 (by have := hbel.size; simp; omega) (fun j hj => own_base hown j hj)⟩
        have e : nums .u64 (List.replicate i 0) ++ [Value.int .u64 0] = nums .u64 (List.replicate (i + 1) 0) := by
          rw [List.replicate_succ', nums_append]
          rfl
        rwa [e] at hown3
      case measure => simp [intOf]; omega
    · obtain rfl : i = 2 * k := by omega
      have hi2 : ¬ ((2 * k : Nat) : Int) < 2 * (k : Int) := by omega
      obtain ⟨K2, hK2⟩ : ∃ K2, K2 = 2 * k := ⟨_, rfl⟩
      rw [← hK2] at hown hNum hi2 ⊢
      have HK2 := Lib.hid hK2
      have hk2l : K2 ≤ 6 := by omega
      clear hK2 hlt hi
      go_upto_region 7 with (first | (refine wpList_app _ rfl (.tmp 21) (.tmp 23) 177 rfl w.heap.size 56 _ 8 Tryd.underlying177 info64 rfl _ K2 (nums .u64 (List.replicate K2 0)) rfl (hown.alloc _) _ 1 1 [.int .u64 p] rfl (Rd.of_block0 (heap_alloc_new _ _)) (nums_one .u64 [p]) (by unfold maxLen; omega) (by omega) (by have := hbel.size; simp; omega) ?_; intro A3 c3 w3 hown3 hgrow3 hat3))
      have hbel3 : Below w.heap.size w w3 := (hbel.alloc hbel.size _).grown hgrow3 (by have := hbel.size; simp; omega) (fun j hj => own_base hown j hj)
      have hform := hown3.form (by omega)
      obtain ⟨gq, cq, hvq, hgq, _⟩ := hform
      obtain ⟨rfl, rfl⟩ : A3 = some ⟨gq, 0, none⟩ ∧ c3 = cq := by injection hvq with e1 e2 e3; exact ⟨e1, e3⟩
      have hread : ReadsAt w3 gq (List.replicate K2 0 ++ [p]) (K2 + 1) := fun j hj => own_cell' (by rw [nums_append]; exact hown3) j hj
      obtain ⟨most, hmost⟩ : ∃ most, most = List.replicate K2 0 ++ [p] := ⟨_, rfl⟩
      rw [← hmost] at hread hNum
      have HR := Lib.hid hread
      clear hread hmost hvq hown3 hgrow3 hat3 hown hbel
      go_wp2
      go_loopw [7, 8] (fun v7 v8 wr => ∃ (lo hi : Int), v7 = .int .u64 lo ∧ v8 = .int .u64 hi ∧ 0 ≤ lo ∧ lo < hi ∧ hi ≤ 137438953472 ∧ Hid (pw k lo ≤ N ∧ N < pw k hi) ∧ Below w.heap.size w wr ∧ Hid (ReadsAt wr gq most (K2 + 1))) (fun v7 v8 _ => (intOf v8 - intOf v7).toNat)
      case atStart => exact ⟨0, 137438953472, rfl, rfl, by omega, by omega, by omega, HS, hbel3, HR⟩
      case round =>
        clear hbel3 HR
        obtain ⟨lo, hi, rfl, rfl, hl0, hlh, hh, HPW, hbel, HR⟩ := hrel
        by_cases hgt : 1 < hi - lo
        · obtain ⟨m, hm⟩ : ∃ m, m = (lo + hi) / 2 := ⟨_, rfl⟩
          have hm1 : lo < m := by omega
          have hm2 : m < hi := by omega
          have em : (lo + hi) / 2 = m := hm.symm
          clear hm
          go_upto_region 11 with fail
          rw [em]
          clear em
          go_wp2_with fail
          refine (parts_num m wr (by omega) (by omega)).mono ?_
          rintro e w1 ⟨g1, c1, x1, rfl, hx1, hr1, hb1⟩
          go_wp2_with fail
          refine (parts_num m w1 (by omega) (by omega)).mono ?_
          rintro e w2 ⟨g2, c2, y1, rfl, hy1, hs1, hb2⟩
          go_wp2_with fail
          refine (times_num g1 c1 g2 c2 3 3 6 x1 y1 m m w2 hx1.out hy1.out rfl (by omega) (by omega) (by omega) (hr1.out.below hb2) hs1.out).mono ?_
          rintro e w3' ⟨g3, c3', x2, rfl, hx2, hr2, hb3⟩
          have hbelA := below_then (below_then (below_then hbel hbel.size hb1) (Nat.le_trans hbel.size hb1.size) hb2) (Nat.le_trans (Nat.le_trans hbel.size hb1.size) hb2.size) hb3
          have HRA := Lib.hid (((HR.out.below hb1).below hb2).below hb3)
          clear hx1 hy1 hr1 hs1 hb1 hb2 hb3 HR hbel
          by_cases hk3 : k = 3
          · have hkb : ((k : Int) == 3) = true := by rw [beq_iff_eq]; omega
            have hpk : pw k m = m * m * m := by rw [hk3, pw3]
            have HPM := Lib.hid hpk
            clear hpk hk3
            go_wp2_with fail
            refine (parts_num m w3' (by omega) (by omega)).mono ?_
            rintro e w4 ⟨g4, c4, y2, rfl, hy2, hs2, hb4⟩
            go_wp2_with fail
            refine (times_num g3 c3' g4 c4 6 3 9 x2 y2 (m * m) m w4 hx2.out hy2.out rfl (by omega) (by omega) (by omega) (hr2.out.below hb4) hs2.out).mono ?_
            rintro e w5 ⟨g5, c5, x3, rfl, hx3, hr3, hb5⟩
            have hbel' := below_then (below_then hbelA hbelA.size hb4) (Nat.le_trans hbelA.size hb4.size) hb5
            have HR4 := Lib.hid ((HRA.out.below hb4).below hb5)
            clear hx2 hr2 hy2 hs2 hb4 hb5 HRA hbelA
            go_wp2_with fail
            refine (over_num g5 c5 gq c3 9 (K2 + 1) x3 most (m * m * m) N w5 hx3.out hNum.out (by omega) (by omega) (by omega) (by omega) hr3.out HR4.out).mono ?_
            rintro e w6 ⟨rfl, rfl⟩
            clear hx3 hr3
            by_cases hov : N < m * m * m
            · have hd : decide (N < m * m * m) = true := decide_eq_true hov
              rw [hd]
              have HV := Lib.hid (show pw k lo ≤ N ∧ N < pw k m from ⟨HPW.out.1, by rw [HPM.out]; exact hov⟩)
              clear hd hov
              go_wp2
              go_roundw
              case rel => exact ⟨lo, m, rfl, rfl, hl0, by omega, by omega, HV, hbel', HR4⟩
              case measure => simp [intOf]; omega
            · have hd : decide (N < m * m * m) = false := decide_eq_false hov
              rw [hd]
              have HV := Lib.hid (show pw k m ≤ N ∧ N < pw k hi from ⟨by rw [HPM.out]; omega, HPW.out.2⟩)
              clear hd hov
              go_wp2
              go_roundw
              case rel => exact ⟨m, hi, rfl, rfl, by omega, by omega, hh, HV, hbel', HR4⟩
              case measure => simp [intOf]; omega
          · have hkb : ((k : Int) == 3) = false := by rw [beq_eq_false_iff_ne]; omega
            have hpk : pw k m = m * m := by unfold pw; rw [if_neg hk3]
            have HPM := Lib.hid hpk
            clear hpk hk3
            have hbel' := hbelA
            have HR4 := HRA
            clear hbelA HRA
            go_wp2_with fail
            refine (over_num g3 c3' gq c3 6 (K2 + 1) x2 most (m * m) N w3' hx2.out hNum.out (by omega) (by omega) (by omega) (by omega) hr2.out HR4.out).mono ?_
            rintro e w6 ⟨rfl, rfl⟩
            clear hx2 hr2
            by_cases hov : N < m * m
            · have hd : decide (N < m * m) = true := decide_eq_true hov
              rw [hd]
              have HV := Lib.hid (show pw k lo ≤ N ∧ N < pw k m from ⟨HPW.out.1, by rw [HPM.out]; exact hov⟩)
              clear hd hov
              go_wp2
              go_roundw
              case rel => exact ⟨lo, m, rfl, rfl, hl0, by omega, by omega, HV, hbel', HR4⟩
              case measure => simp [intOf]; omega
            · have hd : decide (N < m * m) = false := decide_eq_false hov
              rw [hd]
              have HV := Lib.hid (show pw k m ≤ N ∧ N < pw k hi from ⟨by rw [HPM.out]; omega, HPW.out.2⟩)
              clear hd hov
              go_wp2
              go_roundw
              case rel => exact ⟨m, hi, rfl, rfl, by omega, by omega, hh, HV, hbel', HR4⟩
              case measure => simp [intOf]; omega
        · have hlo : hi = lo + 1 := by omega
          have HFin := Lib.hid (show RootOk k p lo from ⟨hl0, by rw [← HN.out]; exact HPW.out.1, by rw [← HN.out, ← hlo]; exact HPW.out.2⟩)
          clear hlo
          go_wp2
          go_ret
          exact ⟨lo, rfl, HFin.out, hbel⟩
end Go.Proofs.YtjlkakggmfmfiaaDoor
