/- num.Compact and tx.text. -/
import Derived.Test.YtclkgflficlmiaaDoorNum
import Derived.Test.YtclkgflficlmiaaDoorBase
set_option maxRecDepth 100000
set_option linter.unusedVariables false
namespace Go.Proofs.YtclkgflficlmiaaDoor
open Go Go.RowKit
theorem lt_of_hid {a b : Nat} (h : Hid (a < b)) : a < b := h
set_option maxHeartbeats 2000000 in
theorem comp_calls (w : World) (base : Nat) (A : Option Addr) (n c : Nat) (xs : List Int) (x : Nat) (hx : Hid (x < 18446744073709551616)) (hn : n ≤ 900000000000) (hb : base ≤ w.heap.size) (hown : w.ownsRow base 5 1 (.slice A n c) n (nums .u8 xs)) (N : Nat) (zs : List Int) (hN : n + (compF x).length = N) (hzs : xs ++ compF x = zs) :
    Calls Tryd.prog 63 #[.slice A n c, .int .u64 (x : Int)] w (AppPost w base (.slice A n c) N zs) := by
  subst hN
  subst hzs
  have hlo : Hid (∀ q, (Value.slice A n c).ownBlock = some q → base ≤ q ∧ q < w.heap.size) := Lib.hid fun q hq => ⟨own_base hown q hq, (hown.lt q hq).2⟩
  by_cases h1 : x < 253
  · have h1' : (x : Int) < 253 := by omega
    have hm : (x : Int) % 256 = (x : Int) := by omega
    have hcf : compF x = [(x : Int)] := by unfold compF; rw [if_pos h1]
    rw [hcf]
    have hoa := World.ownsRow.alloc hown (.cells #[.int .u8 (x : Int)] 5)
    clear hcf hown
    go_enter Tryd.func63, Tryd.ntmps63
    go_wp2_with (first | (refine wpList_appN rfl (.tmp 8) (.tmp 11) 22 rfl base 5 _ 1 Tryd.underlying22 infoU8 rfl (.slice A n c) n (nums .u8 xs) rfl hoa (some ⟨w.heap.size, 0, none⟩) 1 1 (nums .u8 [(x : Int)]) rfl (Rd.of_block0 (heap_alloc_new _ _)) (nums_one _ _) (n + 1) (nums .u8 (xs ++ [(x : Int)])) rfl (nums_append _ _ _).symm (by unfold maxLen; omega) (by omega) (by simp; omega) ?_; intro A3 c3 w3 hO3 hg3 hat3))
    go_ret
    have hG : w.grownBy w3 (Value.slice A n c).ownBlock := grown_trans (grown_of_below ((Below.refl _ _).alloc (Nat.le_refl _) _) _) hg3
    exact ⟨A3, c3, rfl, hO3, hG, hat3.imp id (fun h => ⟨_, h, by simp⟩)⟩
  · have h1' : ¬ (x : Int) < 253 := by omega
    by_cases h2 : x ≤ 65535
    · have h2' : (x : Int) ≤ 65535 := by omega
      have hcf : compF x = 253 :: leF 2 x := by unfold compF; rw [if_neg h1, if_pos h2]
      rw [hcf]
      have hoa := World.ownsRow.alloc hown (.cells #[.int .u8 253] 5)
      clear hcf hown
      go_enter Tryd.func63, Tryd.ntmps63
      go_wp2_with (first | (refine wpList_appN rfl (.tmp 16) (.tmp 17) 22 rfl base 5 _ 1 Tryd.underlying22 infoU8 rfl (.slice A n c) n (nums .u8 xs) rfl hoa (some ⟨w.heap.size, 0, none⟩) 1 1 (nums .u8 [253]) rfl (Rd.of_block0 (heap_alloc_new _ _)) (nums_one _ _) (n + 1) (nums .u8 (xs ++ [253])) rfl (nums_append _ _ _).symm (by unfold maxLen; omega) (by omega) (by simp; omega) ?_; intro A3 c3 w3 hO3 hg3 hat3))
      have hG : w.grownBy w3 (Value.slice A n c).ownBlock := grown_trans (grown_of_below ((Below.refl _ _).alloc (Nat.le_refl _) _) _) hg3
      have hX : Hid ((Value.slice A3 (n + 1) c3).ownBlock = (Value.slice A n c).ownBlock ∨ ∃ g, (Value.slice A3 (n + 1) c3).ownBlock = some g ∧ w.heap.size ≤ g) := Lib.hid (hat3.imp id (fun h => ⟨_, h, by simp⟩))
      have hs3 := hG.size
      clear hg3 hat3 hoa
      refine (little_calls w3 base A3 (n + 1) c3 (xs ++ [253]) x 2 hx.out (by decide) (by omega) (by omega) hO3 _ rfl _ rfl).mono ?_
      rintro e w4 ⟨A4, c4, rfl, hO4, hg4, hx4⟩
      have hf : AppPost w base (.slice A n c) (n + (253 :: leF 2 x).length) (xs ++ 253 :: leF 2 x) (.returned (.slice A4 (n + 1 + 2) c4)) w4 := by
        have e1 : n + (253 :: leF 2 x).length = n + 1 + 2 := by simp [leF_length]
        rw [e1, show xs ++ 253 :: leF 2 x = xs ++ [253] ++ leF 2 x by simp]
        exact ⟨A4, c4, rfl, hO4, grown_chain hG hX.out hg4, own_chain hX.out hs3 hx4⟩
      have HF := Lib.hid hf
      clear hf
      go_wp2
      go_ret
      exact HF.out
    · have h2' : ¬ (x : Int) ≤ 65535 := by omega
      by_cases h3 : x ≤ 4294967295
      · have h3' : (x : Int) ≤ 4294967295 := by omega
        have hcf : compF x = 254 :: leF 4 x := by unfold compF; rw [if_neg h1, if_neg h2, if_pos h3]
        rw [hcf]
        have hoa := World.ownsRow.alloc hown (.cells #[.int .u8 254] 5)
        clear hcf hown
        go_enter Tryd.func63, Tryd.ntmps63
        go_wp2_with (first | (refine wpList_appN rfl (.tmp 24) (.tmp 25) 22 rfl base 5 _ 1 Tryd.underlying22 infoU8 rfl (.slice A n c) n (nums .u8 xs) rfl hoa (some ⟨w.heap.size, 0, none⟩) 1 1 (nums .u8 [254]) rfl (Rd.of_block0 (heap_alloc_new _ _)) (nums_one _ _) (n + 1) (nums .u8 (xs ++ [254])) rfl (nums_append _ _ _).symm (by unfold maxLen; omega) (by omega) (by simp; omega) ?_; intro A3 c3 w3 hO3 hg3 hat3))
        have hG : w.grownBy w3 (Value.slice A n c).ownBlock := grown_trans (grown_of_below ((Below.refl _ _).alloc (Nat.le_refl _) _) _) hg3
        have hX : Hid ((Value.slice A3 (n + 1) c3).ownBlock = (Value.slice A n c).ownBlock ∨ ∃ g, (Value.slice A3 (n + 1) c3).ownBlock = some g ∧ w.heap.size ≤ g) := Lib.hid (hat3.imp id (fun h => ⟨_, h, by simp⟩))
        have hs3 := hG.size
        clear hg3 hat3 hoa
        refine (little_calls w3 base A3 (n + 1) c3 (xs ++ [254]) x 4 hx.out (by decide) (by omega) (by omega) hO3 _ rfl _ rfl).mono ?_
        rintro e w4 ⟨A4, c4, rfl, hO4, hg4, hx4⟩
        have hf : AppPost w base (.slice A n c) (n + (254 :: leF 4 x).length) (xs ++ 254 :: leF 4 x) (.returned (.slice A4 (n + 1 + 4) c4)) w4 := by
          have e1 : n + (254 :: leF 4 x).length = n + 1 + 4 := by simp [leF_length]
          rw [e1, show xs ++ 254 :: leF 4 x = xs ++ [254] ++ leF 4 x by simp]
          exact ⟨A4, c4, rfl, hO4, grown_chain hG hX.out hg4, own_chain hX.out hs3 hx4⟩
        have HF := Lib.hid hf
        clear hf
        go_wp2
        go_ret
        exact HF.out
      · have h3' : ¬ (x : Int) ≤ 4294967295 := by omega
        have hcf : compF x = 255 :: leF 8 x := by unfold compF; rw [if_neg h1, if_neg h2, if_neg h3]
        rw [hcf]
        have hoa := World.ownsRow.alloc hown (.cells #[.int .u8 255] 5)
        clear hcf hown
        go_enter Tryd.func63, Tryd.ntmps63
        go_wp2_with (first | (refine wpList_appN rfl (.tmp 29) (.tmp 30) 22 rfl base 5 _ 1 Tryd.underlying22 infoU8 rfl (.slice A n c) n (nums .u8 xs) rfl hoa (some ⟨w.heap.size, 0, none⟩) 1 1 (nums .u8 [255]) rfl (Rd.of_block0 (heap_alloc_new _ _)) (nums_one _ _) (n + 1) (nums .u8 (xs ++ [255])) rfl (nums_append _ _ _).symm (by unfold maxLen; omega) (by omega) (by simp; omega) ?_; intro A3 c3 w3 hO3 hg3 hat3))
        have hG : w.grownBy w3 (Value.slice A n c).ownBlock := grown_trans (grown_of_below ((Below.refl _ _).alloc (Nat.le_refl _) _) _) hg3
        have hX : Hid ((Value.slice A3 (n + 1) c3).ownBlock = (Value.slice A n c).ownBlock ∨ ∃ g, (Value.slice A3 (n + 1) c3).ownBlock = some g ∧ w.heap.size ≤ g) := Lib.hid (hat3.imp id (fun h => ⟨_, h, by simp⟩))
        have hs3 := hG.size
        clear hg3 hat3 hoa
        refine (little_calls w3 base A3 (n + 1) c3 (xs ++ [255]) x 8 hx.out (by decide) (by omega) (by omega) hO3 _ rfl _ rfl).mono ?_
        rintro e w4 ⟨A4, c4, rfl, hO4, hg4, hx4⟩
        have hf : AppPost w base (.slice A n c) (n + (255 :: leF 8 x).length) (xs ++ 255 :: leF 8 x) (.returned (.slice A4 (n + 1 + 8) c4)) w4 := by
          have e1 : n + (255 :: leF 8 x).length = n + 1 + 8 := by simp [leF_length]
          rw [e1, show xs ++ 255 :: leF 8 x = xs ++ [255] ++ leF 8 x by simp]
          exact ⟨A4, c4, rfl, hO4, grown_chain hG hX.out hg4, own_chain hX.out hs3 hx4⟩
        have HF := Lib.hid hf
        clear hf
        go_wp2
        go_ret
        exact HF.out
end Go.Proofs.YtclkgflficlmiaaDoor
