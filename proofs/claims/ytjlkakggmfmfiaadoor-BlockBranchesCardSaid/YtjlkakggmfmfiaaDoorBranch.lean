/- block.Branch: what stands beside a digest's way to the root. -/
import Derived.Test.YtjlkakggmfmfiaaDoorBlkRoot
import Derived.Test.YtjlkakggmfmfiaaDoorRow2
set_option maxRecDepth 100000
set_option linter.unusedVariables false
namespace Go.Proofs.YtjlkakggmfmfiaaDoor
open Go Go.RowKit
theorem nat_xor1 (a : Nat) : (a ^^^ 1) = sib a := by
  unfold sib
  have h1 : (a ^^^ 1) / 2 = a / 2 := by simp [Nat.xor_div_two]
  have h2 : (a ^^^ 1).testBit 0 = (a.testBit 0 ^^ true) := by rw [Nat.testBit_xor]; rfl
  simp only [Nat.testBit_zero] at h2
  split
  · rename_i h
    rw [h] at h2
    have h3 : ¬ (a ^^^ 1) % 2 = 1 := by simpa using h2
    omega
  · rename_i h
    have h4 : decide (a % 2 = 1) = false := by simpa using h
    rw [h4] at h2
    have h3 : (a ^^^ 1) % 2 = 1 := by simpa using h2
    omega
theorem i64_xor1 (a : Nat) (h : a < 4611686018427387904) : bits .xor .i64 (a : Int) 1 = ((sib a : Nat) : Int) := by
  have h1 : (BitVec.ofInt 64 (a : Int)).toNat = a := by rw [BitVec.ofInt_natCast, BitVec.toNat_ofNat]; exact Nat.mod_eq_of_lt (by omega)
  have h2 : (BitVec.ofInt 64 1).toNat = 1 := rfl
  have h3 : sib a ≤ a + 1 := by unfold sib; split <;> omega
  show IntKind.i64.wrap ((BitVec.ofInt 64 (a : Int) ^^^ BitVec.ofInt 64 1).toNat : Int) = _
  rw [BitVec.toNat_xor, h1, h2, nat_xor1, IntKind.wrap_i64]
  omega
/-- The blocks of what is read may be said to be among those that there are. -/
theorem HC.mono_lt {S S' : Nat → Prop} {w : World} {A : Option Addr} {n : Nat} {ids : List (List Int)} (h : hashK.C S w A n ids) (hS : ∀ k, S k → k < w.heap.size → S' k) : hashK.C S' w A n ids := by
  refine ⟨h.1, fun hp => ?_⟩
  obtain ⟨b, o, hA, hs, hb, hc⟩ := h.2 hp
  exact ⟨b, o, hA, hS b hs hb, hb, fun i x hx => by obtain ⟨cs, hK, hcs⟩ := hc i x hx; exact ⟨cs, hK, hcs⟩⟩
theorem branch_bad (w : World) (A : Option Addr) (n c : Nat) (at_ : Int) (hnm : n ≤ maxLen) (hbad : at_ < 0 ∨ (n : Int) ≤ at_) :
    Calls Tryd.prog 32 #[.slice A n c, .int .i64 at_] w fun e w' => e = .returned (.tuple #[.slice none 0 0, .int .i64 1]) ∧ w = w' := by
  unfold maxLen at hnm
  by_cases h0 : at_ < 0
  · clear hbad
    go_enter Tryd.func32, Tryd.ntmps32
    go_wp2
    go_ret2
    exact ⟨rfl, rfl⟩
  · have h1 : (n : Int) ≤ at_ := by omega
    clear hbad
    go_enter Tryd.func32, Tryd.ntmps32
    go_wp2
    go_ret2
    exact ⟨rfl, rfl⟩
def BranchPost (w : World) (ids : List (List Int)) (e : Ending) (w' : World) : Prop := ∃ A m c, e = .returned (.tuple #[.slice A m c, .int .i64 0]) ∧ HOwn w' w.heap.size 25 (.slice A m c) m ids ∧ Below w.heap.size w w'
set_option maxHeartbeats 2000000 in
theorem branch_calls (w : World) (hT : Tabs w) (A : Option Addr) (n c : Nat) (ids : List (List Int)) (hnc : n ≤ c) (hn : n ≤ 1000000) (hC : HC w A n ids) (i0 : Nat) (hi : i0 < n) :
    Calls Tryd.prog 32 #[.slice A n c, .int .i64 i0] w (BranchPost w (branchF ids i0)) := by
  have hl := hC.len
  have hU2 := Tryd.underlying25
  have hi0 : ¬ (i0 : Int) < 0 := by omega
  have hi1 : ¬ (n : Int) ≤ (i0 : Int) := by omega
  have hi2 : (0 : Int) ≤ (i0 : Int) := by omega
  have hi3 : (i0 : Int) < (n : Int) := by omega
  have hE : HOwn w w.heap.size 25 (.slice none 0 0) 0 [] := RK.Own.nil _ _ _ _ _
  have hCa : hashK.C (fun k => some k ≠ (Value.slice none 0 0).ownBlock) w A n ids := RK.C.mono hC (fun k _ e => by simp [Value.ownBlock] at e)
  clear hl
  go_enter Tryd.func32, Tryd.ntmps32
  go_wp2
  go_loopw [1, 6, 7] (fun v1 v6 v7 wr => ∃ (i m c1 p c2 : Nat) (A1 A2 : Option Addr) (L out : List (List Int)), v1 = .int .i64 i ∧ v7 = .slice A1 m c1 ∧ v6 = .slice A2 p c2 ∧ m ≤ c1 ∧ i < m ∧ p + m ≤ n ∧ hashK.C (fun k => some k ≠ (Value.slice A2 p c2).ownBlock) wr A1 m L ∧
    HOwn wr w.heap.size 25 (.slice A2 p c2) p out ∧ Hid (branchF ids i0 = out ++ branchF L i) ∧ Below w.heap.size w wr) (fun _ _ v _ => sliceLen v)
  case atStart => exact ⟨i0, n, c, 0, 0, A, none, ids, [], rfl, rfl, rfl, hnc, hi, by omega, hCa, hE, Lib.hid rfl, Below.refl _ _⟩
  case round =>
    clear hE hCa hC hi0 hi1 hi2 hi3
    obtain ⟨i, m, c1, p, c2, A1, A2, L, out, rfl, rfl, rfl, hmc, him, hpm, hL, hO, HR, hB⟩ := hrel
    have hTr := hT.below hB
    have hm6 : m ≤ 1000000 := by omega
    by_cases hlt : 1 < m
    · have hlt' : (1 : Int) < (m : Int) := by omega
      have hii : (0 : Int) ≤ (i : Int) := by omega
      have hxor := i64_xor1 i (by omega)
      have hdl := HC.digs hL
      have hll := hL.len
      obtain ⟨j, hj⟩ : ∃ j, j = min (sib i) (m - 1) := ⟨_, rfl⟩
      have hjm : j < m := by omega
      have hjm' : (j : Int) < (m : Int) := by omega
      have hj0 : (0 : Int) ≤ (j : Int) := by omega
      have hmin : min ((sib i : Nat) : Int) ((m : Int) - 1) = (j : Int) := by omega
      have hx := dg_dig hdl j (by omega)
      obtain ⟨b, o, rfl, hbw, hr⟩ := HC.addr hL (by omega)
      have rx := hr j hjm
      have i1 := ilen_hash (dg L j) hx.1
      have hst : branchF L i = dg L j :: branchF (upF L) (i / 2) := by rw [branchF_up L i (by omega), hll, ← hj]
      have HS : Hid (branchF ids i0 = (out ++ [dg L j]) ++ branchF (upF L) (i / 2)) := Lib.hid (by rw [HR.out, hst, List.append_assoc]; rfl)
      have HLL := Lib.hid hll
      have HJ := Lib.hid hj
      have hws := hB.size
      have HLT : Hid (∀ q, (Value.slice A2 p c2).ownBlock = some q → w.heap.size ≤ q ∧ q < wr.heap.size) := Lib.hid fun q hq => hO.lt q hq
      have hOb := RK.Own.alloc hO (.cells (nums .u8 (dg L j)).toArray 25)
      have hLb : hashK.C (fun k => some k ≠ (Value.slice A2 p c2).ownBlock ∧ k < wr.heap.size + 1) (wr.alloc (.cells (nums .u8 (dg L j)).toArray 25)) (some ⟨b, o, none⟩) m L := HC.mono_lt (RK.C.below hL ((Below.refl _ _).alloc (Nat.le_refl _) _)) (fun k hk hlt => ⟨hk, by simpa using hlt⟩)
      have hgb := heap_alloc_new wr (.cells (nums .u8 (dg L j)).toArray 25)
      have hBb : Below w.heap.size w (wr.alloc (.cells (nums .u8 (dg L j)).toArray 25)) := hB.alloc hB.size _
      clear hr hst hll hj HR hO hL hB
      go_upto_region 6 with (first | (refine wpList_load_mid rfl 25 (.tmp 32) rfl b (o + j * 32) rfl (nums .u8 (dg L j)) _ rx hU2 rfl i1 ?_) | (refine wpList_buildH rfl 38 25 1 _ rfl Tryd.underlying38 zinfo_hash [dg L j] rfl (Digs.one hx) rfl (by decide) (by decide) (nums .u8 (dg L j)) (flatH_one _) ?_) | (refine wpList_appH rfl (.tmp 24) (.tmp 34) 38 25 rfl Tryd.underlying38 zinfo_hash w.heap.size (.slice A2 p c2) p out rfl hOb wr.heap.size 1 (dg L j) rfl hgb hx (out ++ [dg L j]) rfl (by omega) (by simp; omega) ?_; intro A3 c3 w3 hO3 hg3 hat3))
      have hB3 : Below w.heap.size w w3 := hBb.grown hg3 hBb.size (fun q hq => (HLT.out q hq).1)
      have hL3 : hashK.C (fun k => some k ≠ (Value.slice A3 (p + 1) c3).ownBlock) w3 (some ⟨b, o, none⟩) m L := RK.C.mono (RK.C.move hLb (fun k hk hlt => hg3.block k hlt hk.1)) (fun k hk e => by
        rcases hat3 with h | h
        · exact hk.1 (e.trans h)
        · rw [h] at e; injection e with e; simp at e; omega)
      have hT3 := hT.below hB3
      clear hg3 hat3 hOb hgb hBb hLb rx hTr hxor hmin
      go_wp2_with fail
      refine (up_calls _ hT3 (some ⟨b, o, none⟩) m c1 L hmc hm6 (HC.of hL3)).mono ?_
      rintro e w4 ⟨A4, c4, rfl, hO4, hb4⟩
      have hle4 := (RK.Own.le_ hO4).1
      have hB4 := below_then hB3 hB3.size hb4
      have hL4 : hashK.C (fun k => some k ≠ (Value.slice A3 (p + 1) c3).ownBlock) w4 A4 ((m + 1) / 2) (upF L) := RK.Own.C_ hO4 (fun _ h => h.elim) (fun k hk e => by
        have h1 := (hO4.lt k hk).1
        have h2 := (hO3.lt k e.symm).2
        omega)
      have hO34 := RK.Own.below hO3 hb4
      clear hO4 hb4 hB3 hO3 hL3 hT3
      go_wp2
      go_roundw
      case rel => exact ⟨i / 2, (m + 1) / 2, c4, p + 1, c3, A4, A3, upF L, out ++ [dg L j], by go_num, rfl, rfl, hle4, by omega, by omega, hL4, hO34, HS, hB4⟩
      case measure => show (m + 1) / 2 < m; omega
    · have hlt' : ¬ (1 : Int) < (m : Int) := by omega
      have hfin : branchF ids i0 = out := by rw [HR.out, branchF_end L i (by have := hL.len; omega), List.append_nil]
      have HF := Lib.hid hfin
      clear hfin HR hL
      go_wp2
      go_ret2
      rw [HF.out]
      exact ⟨A2, p, c2, rfl, hO, hB⟩
end Go.Proofs.YtjlkakggmfmfiaaDoor
