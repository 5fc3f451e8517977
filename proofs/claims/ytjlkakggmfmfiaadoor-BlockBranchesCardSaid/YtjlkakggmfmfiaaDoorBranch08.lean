/- The reference's Branch. -/
import Derived.Test.YtjlkakggmfmfiaaDoorRows08
import Derived.Test.YtjlkakggmfmfiaaDoorBranch
set_option maxRecDepth 100000
set_option linter.unusedVariables false
namespace Go.Proofs.YtjlkakggmfmfiaaDoor
open Go Go.RowKit
theorem rowsF_head (L : List (List Int)) : ∃ t, rowsF L = L :: t := by
  rcases Nat.lt_or_ge 1 L.length with h | h
  · exact ⟨_, rowsF_up L h⟩
  · exact ⟨[], rowsF_end L h⟩
theorem rowK_lt {S : Nat → Prop} {w : World} {A : Option Addr} {n : Nat} {xs : List (List (List Int))} (h : rowK.C S w A n xs) : rowK.C (fun k => S k ∧ k < w.heap.size) w A n xs := by
  refine ⟨h.1, fun hp => ?_⟩
  obtain ⟨b, o, hA, hs, hb, hc⟩ := h.2 hp
  refine ⟨b, o, hA, ⟨hs, hb⟩, hb, fun i x hx => ?_⟩
  obtain ⟨cs, ⟨A', n', c', hcs', h1, h2, h3⟩, hcs⟩ := hc i x hx
  exact ⟨cs, ⟨A', n', c', hcs', h1, h2, HC.mono_lt h3 (fun k hk hl => ⟨hk, hl⟩)⟩, hcs⟩
set_option maxHeartbeats 4000000 in
theorem branch08_calls (w : World) (A : Option Addr) (n c : Nat) (ids : List (List Int)) (hnc : n ≤ c) (hcm : c ≤ maxLen) (hn : n ≤ 1000000) (hC : HC w A n ids) (i0 : Nat) (hi : i0 < n) :
    Calls Tryd.prog 33 #[.agg (nums .u32 tabs72).toArray, .slice A n c, .int .i64 i0] w (RowPost w 24 (branchF ids i0).length (branchF ids i0)) := by
  have hl := hC.len
  have hU2 := Tryd.underlying24
  have hb0 : Below w.heap.size w ((w.alloc (.cells (nums .u32 tabs72).toArray 31)).alloc (.cells #[] 24)) := ((Below.refl _ _).alloc (Nat.le_refl _) _).alloc (by simp) _
  have g0 : ((w.alloc (.cells (nums .u32 tabs72).toArray 31)).alloc (.cells #[] 24)).heap[w.heap.size]? = some (.cells (nums .u32 tabs72).toArray 31) := heap_alloc2_old _ _ _
  have hE : HOwn ((w.alloc (.cells (nums .u32 tabs72).toArray 31)).alloc (.cells #[] 24)) (w.heap.size + 1) 24 (.slice (some ⟨w.heap.size + 1, 0, none⟩) 0 0) 0 [] := by
    have := RK.Own.empty hashK (fun _ => False) (w := w.alloc (.cells (nums .u32 tabs72).toArray 31)) (base := w.heap.size + 1) 24 (by simp)
    simpa only [World.size_alloc] using this
  have hCS : hashK.C (fun k => k ≠ w.heap.size + 1) ((w.alloc (.cells (nums .u32 tabs72).toArray 31)).alloc (.cells #[] 24)) A n ids := RK.C.below (HC.mono_lt hC (fun k _ hk => by omega)) hb0
  have HL := Lib.hid hl
  clear hl
  go_enter Tryd.func33, Tryd.ntmps33
  go_wp2_with (first | (refine wpList_load_row rfl 31 (.tmp 3) rfl w.heap.size rfl 31 _ _ _ g0 Tryd.underlying31 rfl (info_tabL tabs72 rfl) ?_))
  refine (rows_calls _ A n c ids hnc hcm hn (fun k => k ≠ w.heap.size + 1) (fun k hk => by simp at hk; omega) hCS).mono ?_
  rintro e w2 ⟨A5, R, c5, rfl, hC5, hb2⟩
  have hE2 := RK.Own.below hE hb2
  have b02 := below_then hb0 hb0.size hb2
  have hs2 : w.heap.size + 2 ≤ w2.heap.size := by have := hb2.size; simpa using this
  have hR5 := rowK_lt hC5
  have hRl : Hid ((rowsF ids).length = R) := Lib.hid hC5.len
  have hRm : R ≤ 1000001 := by
    have h1 := rowsF_length n ids (by rw [HL.out]; exact Nat.le_refl _)
    have h2 := hC5.len
    omega
  clear hE hb0 g0 hCS hC5 hb2
  go_wp2
  go_loopw [2, 7, 16] (fun v2 v7 v16 wr => ∃ (k i p c2 : Nat) (A2 : Option Addr) (L out : List (List Int)), v16 = .int .i64 k ∧ v2 = .int .i64 i ∧ v7 = .slice A2 p c2 ∧ k ≤ R ∧ i < L.length ∧ p + L.length ≤ n ∧ Hid ((rowsF ids).drop k = rowsF L) ∧ Hid (branchF ids i0 = out ++ branchF L i) ∧
    HOwn wr (w.heap.size + 1) 24 (.slice A2 p c2) p out ∧ Hid (∀ q, (Value.slice A2 p c2).ownBlock = some q → q = w.heap.size + 1 ∨ w2.heap.size ≤ q) ∧ rowK.C (fun k => k ≠ w.heap.size + 1 ∧ k < w2.heap.size) wr A5 R (rowsF ids) ∧ Below w.heap.size w wr ∧ w2.heap.size ≤ wr.heap.size) (fun _ _ v _ => R - (intOf v).toNat)
  case atStart => exact ⟨0, i0, 0, 0, _, ids, [], rfl, rfl, rfl, by omega, by rw [HL.out]; exact hi, by have := HL.out; omega, Lib.hid rfl, Lib.hid rfl, hE2, Lib.hid (fun q hq => .inl (Option.some.inj (show some (w.heap.size + 1) = some q from hq)).symm), hR5, b02, Nat.le_refl _⟩
  case round =>
    clear hE2 hR5 b02 hC
    obtain ⟨k, i, p, c2, A2, L, out, rfl, rfl, rfl, hk, hiL, hpL, HD, HR, hO, HOB, hR, hB, hws⟩ := hrel
    obtain ⟨tl, htl⟩ := rowsF_head L
    have hkR : k < R := by
      rcases Nat.lt_or_ge k R with h | h
      · exact h
      · have h1 := HD.out
        rw [List.drop_eq_nil_of_le (by rw [hRl.out]; exact h), htl] at h1
        cases h1
    have hget : (rowsF ids)[k]? = some L := by
      have h1 := congrArg List.head? HD.out
      rw [htl, List.head?_drop] at h1
      simpa using h1
    have hdrop : (rowsF ids).drop (k + 1) = tl := by
      have h1 := congrArg List.tail HD.out
      rw [htl, List.tail_drop] at h1
      simpa using h1
    obtain ⟨b, o, cs, x, hA5, hx, ⟨A1, m, c1, rfl, hmc, hcm1, hL⟩, hcell⟩ := hR.get k hkR
    obtain rfl : x = L := by rw [hget] at hx; exact (Option.some.inj hx).symm
    have hc0 := hcell 0 _ rfl
    rw [show o + k * rowK.sz + 0 = o + k by show o + k * 1 + 0 = _; omega] at hc0
    have hlm := hL.len
    have hdl := HC.digs hL
    subst hA5
    have hkR' : (k : Int) < (R : Int) := by omega
    have hk0 : (0 : Int) ≤ (k : Int) := by omega
    have HTL := Lib.hid htl
    have HDR := Lib.hid hdrop
    have HLM := Lib.hid hlm
    have him : i < m := by omega
    have hpm : p + m ≤ n := by omega
    clear htl hget hdrop hcell hx hlm HD hiL hpL
    by_cases h1 : m = 1
    · have h1' : ((m : Int) == 1) = true := by rw [h1]; rfl
      have hfin : branchF ids i0 = out := by rw [HR.out, branchF_end x i (by have := HLM.out; omega), List.append_nil]
      have hol : out.length = p := hO.len
      have HF := Lib.hid hfin
      have HOL := Lib.hid hol
      clear hfin HR hL h1 hol
      go_wp2
      go_ret
      rw [HF.out, HOL.out]
      exact ⟨A2, c2, rfl, RK.Own.base_ hO (by omega), hB⟩
    · have h1' : ((m : Int) == 1) = false := by rw [beq_eq_false_iff_ne]; omega
      have h1m : 1 < m := by omega
      have hii : (0 : Int) ≤ (i : Int) := by omega
      have him' : (i : Int) < (m : Int) := by omega
      have hm6 : m ≤ 1000000 := by omega
      have HTL2 : Hid (tl = rowsF (upF x)) := Lib.hid (by
        have h2 := HTL.out
        rw [rowsF_up x (by have := HLM.out; omega)] at h2
        injection h2 with _ h3
        exact h3.symm)
      have hLT : Hid (∀ q, (Value.slice A2 p c2).ownBlock = some q → w.heap.size + 1 ≤ q ∧ q < wr.heap.size) := Lib.hid fun q hq => hO.lt q hq
      clear h1
      by_cases hodd : i % 2 = 1
      · have ho' : ((i : Int) % 2 == 1) = true := by rw [show (i : Int) % 2 = 1 by omega]; rfl
        have hj0 : (0 : Int) ≤ (i : Int) - 1 := by omega
        have hj2 : (1 : Int) ≤ (i : Int) := by omega
        have hj1 : ¬ (m : Int) ≤ (i : Int) - 1 := by omega
        have hj3 : (i : Int) - 1 < (m : Int) := by omega
        have hsib : min (sib i) (m - 1) = i - 1 := by unfold sib; rw [if_pos hodd]; omega
        have hJ : i - 1 < m := by omega
        have hx1 := dg_dig hdl (i - 1) (by rw [HLM.out]; exact hJ)
        obtain ⟨b1, o1, rfl, hbw1, hr⟩ := HC.addr hL (by omega)
        have rx := hr (i - 1) hJ
        have i1 := ilen_a32 (dg x (i - 1)) hx1.1
        have HS : Hid (branchF ids i0 = (out ++ [dg x (i - 1)]) ++ branchF (upF x) (i / 2)) := Lib.hid (by rw [HR.out, branchF_up x i (by have := HLM.out; omega), HLM.out, hsib, List.append_assoc]; rfl)
        have hOb := RK.Own.alloc hO (.cells (nums .u8 (dg x (i - 1))).toArray 24)
        have hgb := heap_alloc_new wr (.cells (nums .u8 (dg x (i - 1))).toArray 24)
        have hRb : rowK.C (fun k => k ≠ w.heap.size + 1 ∧ k < w2.heap.size) (wr.alloc (.cells (nums .u8 (dg x (i - 1))).toArray 24)) (some ⟨b, o, none⟩) R (rowsF ids) := RK.C.below hR ((Below.refl _ _).alloc (Nat.le_refl _) _)
        have hBb : Below w.heap.size w (wr.alloc (.cells (nums .u8 (dg x (i - 1))).toArray 24)) := hB.alloc hB.size _
        clear hr HR hO hB hL hR hsib
        go_wp2_with (first | (refine wpList_load_mid rfl 24 (.tmp 38) rfl b1 (o1 + (i - 1) * 32) rfl (nums .u8 (dg x (i - 1))) _ rx hU2 rfl i1 ?_) | (refine wpList_buildH rfl 41 24 1 _ rfl Tryd.underlying41 zinfo_a32 [dg x (i - 1)] rfl (Digs.one hx1) rfl (by decide) (by decide) (nums .u8 (dg x (i - 1))) (flatH_one _) ?_) | (refine wpList_appH rfl (.tmp 35) (.tmp 40) 41 24 rfl Tryd.underlying41 zinfo_a32 (w.heap.size + 1) (.slice A2 p c2) p out rfl hOb wr.heap.size 1 (dg x (i - 1)) rfl hgb hx1 (out ++ [dg x (i - 1)]) rfl (by omega) (by simp; omega) ?_; intro A3 c3 w3 hO3 hg3 hat3))
        have hB3 : Below w.heap.size w w3 := hBb.grown hg3 hBb.size (fun q hq => by have := (hLT.out q hq).1; omega)
        have hR3 : rowK.C (fun k => k ≠ w.heap.size + 1 ∧ k < w2.heap.size) w3 (some ⟨b, o, none⟩) R (rowsF ids) := RK.C.move hRb (fun k hk hlt => hg3.block k hlt (fun e => by
          rcases HOB.out k e.symm with h | h
          · exact hk.1 h
          · have := hk.2; omega))
        have hws3 : w2.heap.size ≤ w3.heap.size := by have := hg3.size; simp at this; omega
        have HOB3 : Hid (∀ q, (Value.slice A3 (p + 1) c3).ownBlock = some q → q = w.heap.size + 1 ∨ w2.heap.size ≤ q) := Lib.hid (fun q hq => by
          rcases hat3 with h | h
          · exact HOB.out q (h.symm.trans hq)
          · rw [h] at hq; injection hq with hq; simp at hq; exact .inr (by omega))
        clear hg3 hat3 hOb hgb hRb hBb rx HOB
        go_roundw
        case rel => exact ⟨k + 1, i / 2, p + 1, c3, A3, upF x, out ++ [dg x (i - 1)], by go_num, by go_num, rfl, by omega, by rw [upF_length, HLM.out]; omega, by rw [upF_length, HLM.out]; omega, Lib.hid (by rw [HDR.out, HTL2.out]), HS, hO3, HOB3, hR3, hB3, hws3⟩
        case measure => simp [intOf]; omega
      · have ho' : ((i : Int) % 2 == 1) = false := by rw [beq_eq_false_iff_ne]; omega
        by_cases hnx : i + 1 < m
        · have hj0 : (0 : Int) ≤ (i : Int) + 1 := by omega
          have hj1 : ¬ (m : Int) ≤ (i : Int) + 1 := by omega
          have hj3 : (i : Int) + 1 < (m : Int) := by omega
          have hsib : min (sib i) (m - 1) = i + 1 := by unfold sib; rw [if_neg hodd]; omega
          have hJ : i + 1 < m := by omega
          have hx1 := dg_dig hdl (i + 1) (by rw [HLM.out]; exact hJ)
          obtain ⟨b1, o1, rfl, hbw1, hr⟩ := HC.addr hL (by omega)
          have rx := hr (i + 1) hJ
          have i1 := ilen_a32 (dg x (i + 1)) hx1.1
          have HS : Hid (branchF ids i0 = (out ++ [dg x (i + 1)]) ++ branchF (upF x) (i / 2)) := Lib.hid (by rw [HR.out, branchF_up x i (by have := HLM.out; omega), HLM.out, hsib, List.append_assoc]; rfl)
          have hOb := RK.Own.alloc hO (.cells (nums .u8 (dg x (i + 1))).toArray 24)
          have hgb := heap_alloc_new wr (.cells (nums .u8 (dg x (i + 1))).toArray 24)
          have hRb : rowK.C (fun k => k ≠ w.heap.size + 1 ∧ k < w2.heap.size) (wr.alloc (.cells (nums .u8 (dg x (i + 1))).toArray 24)) (some ⟨b, o, none⟩) R (rowsF ids) := RK.C.below hR ((Below.refl _ _).alloc (Nat.le_refl _) _)
          have hBb : Below w.heap.size w (wr.alloc (.cells (nums .u8 (dg x (i + 1))).toArray 24)) := hB.alloc hB.size _
          clear hr HR hO hB hL hR hsib
          go_wp2_with (first | (refine wpList_load_mid rfl 24 (.tmp 38) rfl b1 (o1 + (i + 1) * 32) rfl (nums .u8 (dg x (i + 1))) _ rx hU2 rfl i1 ?_) | (refine wpList_buildH rfl 41 24 1 _ rfl Tryd.underlying41 zinfo_a32 [dg x (i + 1)] rfl (Digs.one hx1) rfl (by decide) (by decide) (nums .u8 (dg x (i + 1))) (flatH_one _) ?_) | (refine wpList_appH rfl (.tmp 35) (.tmp 40) 41 24 rfl Tryd.underlying41 zinfo_a32 (w.heap.size + 1) (.slice A2 p c2) p out rfl hOb wr.heap.size 1 (dg x (i + 1)) rfl hgb hx1 (out ++ [dg x (i + 1)]) rfl (by omega) (by simp; omega) ?_; intro A3 c3 w3 hO3 hg3 hat3))
          have hB3 : Below w.heap.size w w3 := hBb.grown hg3 hBb.size (fun q hq => by have := (hLT.out q hq).1; omega)
          have hR3 : rowK.C (fun k => k ≠ w.heap.size + 1 ∧ k < w2.heap.size) w3 (some ⟨b, o, none⟩) R (rowsF ids) := RK.C.move hRb (fun k hk hlt => hg3.block k hlt (fun e => by
            rcases HOB.out k e.symm with h | h
            · exact hk.1 h
            · have := hk.2; omega))
          have hws3 : w2.heap.size ≤ w3.heap.size := by have := hg3.size; simp at this; omega
          have HOB3 : Hid (∀ q, (Value.slice A3 (p + 1) c3).ownBlock = some q → q = w.heap.size + 1 ∨ w2.heap.size ≤ q) := Lib.hid (fun q hq => by
            rcases hat3 with h | h
            · exact HOB.out q (h.symm.trans hq)
            · rw [h] at hq; injection hq with hq; simp at hq; exact .inr (by omega))
          clear hg3 hat3 hOb hgb hRb hBb rx HOB
          go_roundw
          case rel => exact ⟨k + 1, i / 2, p + 1, c3, A3, upF x, out ++ [dg x (i + 1)], by go_num, by go_num, rfl, by omega, by rw [upF_length, HLM.out]; omega, by rw [upF_length, HLM.out]; omega, Lib.hid (by rw [HDR.out, HTL2.out]), HS, hO3, HOB3, hR3, hB3, hws3⟩
          case measure => simp [intOf]; omega
        · have hj1 : (m : Int) ≤ (i : Int) + 1 := by omega
          have hsib : min (sib i) (m - 1) = i := by unfold sib; rw [if_neg hodd]; omega
          have hJ : i < m := by omega
          have hx1 := dg_dig hdl i (by rw [HLM.out]; exact hJ)
          obtain ⟨b1, o1, rfl, hbw1, hr⟩ := HC.addr hL (by omega)
          have rx := hr i hJ
          have i1 := ilen_a32 (dg x i) hx1.1
          have HS : Hid (branchF ids i0 = (out ++ [dg x i]) ++ branchF (upF x) (i / 2)) := Lib.hid (by rw [HR.out, branchF_up x i (by have := HLM.out; omega), HLM.out, hsib, List.append_assoc]; rfl)
          have hOb := RK.Own.alloc hO (.cells (nums .u8 (dg x i)).toArray 24)
          have hgb := heap_alloc_new wr (.cells (nums .u8 (dg x i)).toArray 24)
          have hRb : rowK.C (fun k => k ≠ w.heap.size + 1 ∧ k < w2.heap.size) (wr.alloc (.cells (nums .u8 (dg x i)).toArray 24)) (some ⟨b, o, none⟩) R (rowsF ids) := RK.C.below hR ((Below.refl _ _).alloc (Nat.le_refl _) _)
          have hBb : Below w.heap.size w (wr.alloc (.cells (nums .u8 (dg x i)).toArray 24)) := hB.alloc hB.size _
          clear hr HR hO hB hL hR hsib
          go_wp2_with (first | (refine wpList_load_mid rfl 24 (.tmp 38) rfl b1 (o1 + i * 32) rfl (nums .u8 (dg x i)) _ rx hU2 rfl i1 ?_) | (refine wpList_buildH rfl 41 24 1 _ rfl Tryd.underlying41 zinfo_a32 [dg x i] rfl (Digs.one hx1) rfl (by decide) (by decide) (nums .u8 (dg x i)) (flatH_one _) ?_) | (refine wpList_appH rfl (.tmp 35) (.tmp 40) 41 24 rfl Tryd.underlying41 zinfo_a32 (w.heap.size + 1) (.slice A2 p c2) p out rfl hOb wr.heap.size 1 (dg x i) rfl hgb hx1 (out ++ [dg x i]) rfl (by omega) (by simp; omega) ?_; intro A3 c3 w3 hO3 hg3 hat3))
          have hB3 : Below w.heap.size w w3 := hBb.grown hg3 hBb.size (fun q hq => by have := (hLT.out q hq).1; omega)
          have hR3 : rowK.C (fun k => k ≠ w.heap.size + 1 ∧ k < w2.heap.size) w3 (some ⟨b, o, none⟩) R (rowsF ids) := RK.C.move hRb (fun k hk hlt => hg3.block k hlt (fun e => by
            rcases HOB.out k e.symm with h | h
            · exact hk.1 h
            · have := hk.2; omega))
          have hws3 : w2.heap.size ≤ w3.heap.size := by have := hg3.size; simp at this; omega
          have HOB3 : Hid (∀ q, (Value.slice A3 (p + 1) c3).ownBlock = some q → q = w.heap.size + 1 ∨ w2.heap.size ≤ q) := Lib.hid (fun q hq => by
            rcases hat3 with h | h
            · exact HOB.out q (h.symm.trans hq)
            · rw [h] at hq; injection hq with hq; simp at hq; exact .inr (by omega))
          clear hg3 hat3 hOb hgb hRb hBb rx HOB
          go_roundw
          case rel => exact ⟨k + 1, i / 2, p + 1, c3, A3, upF x, out ++ [dg x i], by go_num, by go_num, rfl, by omega, by rw [upF_length, HLM.out]; omega, by rw [upF_length, HLM.out]; omega, Lib.hid (by rw [HDR.out, HTL2.out]), HS, hO3, HOB3, hR3, hB3, hws3⟩
          case measure => simp [intOf]; omega
end Go.Proofs.YtjlkakggmfmfiaaDoor
