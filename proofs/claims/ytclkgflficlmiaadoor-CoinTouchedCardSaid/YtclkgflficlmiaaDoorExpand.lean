/- num.Expand: a number as Bitcoin lays it, read. -/
import Derived.Test.YtclkgflficlmiaaDoorComp
import Derived.Test.YtclkgflficlmiaaDoorBase
set_option maxRecDepth 100000
set_option linter.unusedVariables false
namespace Go.Proofs.YtclkgflficlmiaaDoor
open Go Go.RowKit
def ExpPost (w : World) (bs : List Int) (e : Ending) (w' : World) : Prop := e = .returned (.tuple #[.int .u64 (expF bs).1, .int .i64 ((expF bs).2.1 : Int), .int .i64 (expF bs).2.2]) ∧ Below w.heap.size w w'
set_option maxHeartbeats 2000000 in
theorem exp_big (w : World) (b0 o n c : Nat) (b : Int) (r : List Int) (s : Nat) (hs : s ≤ 8) (hs1 : 1 ≤ s) (hbb : (b = 253 ∧ s = 2) ∨ (b = 254 ∧ s = 4) ∨ (b = 255 ∧ s = 8)) (hnc : n ≤ c) (hcm : c ≤ maxLen) (hr : Rd w (some ⟨b0, o, none⟩) n (nums .u8 (b :: r))) (hbs : Bytes (b :: r)) :
    Calls Tryd.prog 64 #[.slice (some ⟨b0, o, none⟩) n c] w (ExpPost w (b :: r)) := by
  have hl : r.length + 1 = n := by have := hr.1; rwa [nums_length, List.length_cons] at this
  have hsz : sizF b = s := by rcases hbb with ⟨rfl, rfl⟩ | ⟨rfl, rfl⟩ | ⟨rfl, rfl⟩ <;> rfl
  have hb253 : ¬ b < 253 := by omega
  have hex : expF (b :: r) = if r.length < s then (0, 0, 8) else if (compF (ofLE (r.take s)).toNat).length ≠ 1 + s then (0, 0, 2) else (ofLE (r.take s), 1 + s, 0) := by
    simp only [expF, hsz]
    rw [if_neg hb253]
  have hc0 : w.cell? ⟨b0, o, none⟩ = some (.int .u8 b) := by
    obtain ⟨b', o', e, hc⟩ := hr.2 (by omega)
    injection e with e
    injection e with e1 e2
    subst e1 e2
    exact hc 0 _ rfl
  have hn0 : ((n : Int) == 0) = false := by rw [beq_eq_false_iff_ne]; omega
  have hn1 : (0 : Int) < (n : Int) := by omega
  have hrb : Bytes r := fun x hx => hbs x (List.mem_cons_of_mem _ hx)
  have hcm' := hcm
  unfold maxLen at hcm'
  have hsv : (2 : Int) * 2 ^ (b - 253).toNat = (s : Int) := by rcases hbb with ⟨rfl, rfl⟩ | ⟨rfl, rfl⟩ | ⟨rfl, rfl⟩ <;> rfl
  have HEX := Lib.hid hex
  have HL := Lib.hid hl
  have HBB := Lib.hid hbb
  have hb0 : 253 ≤ b := by omega
  have hb1 : b ≤ 255 := by omega
  clear hex hl hbb hsz hb253
  by_cases hshort : r.length < s
  · have hsh : (n : Int) < 1 + (s : Int) := by have := HL.out; omega
    have hf : expF (b :: r) = (0, 0, 8) := by rw [HEX.out, if_pos hshort]
    have HF := Lib.hid hf
    clear hf hshort
    go_enter Tryd.func64, Tryd.ntmps64
    go_wp2
    go_ret3
    refine ⟨?_, Below.refl _ _⟩
    rw [HF.out]
    rfl
  · have hsh : ¬ (n : Int) < 1 + (s : Int) := by have := HL.out; omega
    have hx : expF (b :: r) = if (compF (ofLE (r.take s)).toNat).length ≠ 1 + s then (0, 0, 2) else (ofLE (r.take s), 1 + s, 0) := by rw [HEX.out, if_neg hshort]
    have HX := Lib.hid hx
    have r1 : Rd w (some ⟨b0, o + 1, none⟩) s (nums .u8 (r.take s)) := by
      have := hr.cut 1 s (by have := HL.out; omega)
      rwa [nums_drop, nums_take, List.drop_succ_cons, List.drop_zero] at this
    have hxr := expF_range hbs
    obtain ⟨x, hxx⟩ : ∃ x : Nat, ofLE (r.take s) = (x : Int) ∧ x < 18446744073709551616 := by
      have h1 := ofLE_range (r.take s) (hrb.take _)
      have h2 : (256 : Nat) ^ (r.take s).length ≤ 256 ^ 8 := Nat.pow_le_pow_right (by decide) (by rw [List.length_take]; omega)
      have h3 : (256 : Int) ^ (r.take s).length = ((256 ^ (r.take s).length : Nat) : Int) := by rw [Int.natCast_pow]; rfl
      exact ⟨(ofLE (r.take s)).toNat, by omega, by omega⟩
    have HXX := Lib.hid hxx
    have hs1c : (1 : Int) + (s : Int) ≤ (c : Int) := by have := HL.out; omega
    have hc1 : ¬ c = 1 := by have := HL.out; omega
    have hs0 : (0 : Int) ≤ (s : Int) := by omega
    have hsI : (s : Int) ≤ 8 := by omega
    have hcI : (c : Int) ≤ 9223372036854775807 := by omega
    clear hx hxr hxx hshort
    go_enter Tryd.func64, Tryd.ntmps64
    go_wp2_with fail
    refine (lit_calls w (some ⟨b0, o + 1, none⟩) s (c - 1) (r.take s) hs r1 (hrb.take _)).mono ?_
    rintro e w' ⟨rfl, rfl⟩
    rw [HXX.out.1]
    have hn0 : w.ownsRow w.heap.size 5 1 (.slice none 0 0) 0 (nums .u8 []) := World.ownsRow_nil _ _ _ _
    have hxl : Hid (x < 18446744073709551616) := Lib.hid HXX.out.2
    go_wp2_with fail
    refine (comp_calls w w.heap.size none 0 0 [] x hxl (by decide) (Nat.le_refl _) hn0 (compF x).length (compF x) (Nat.zero_add _) rfl).mono ?_
    rintro e w2 ⟨A2, c2, rfl, ho2, hg2, hx2⟩
    have b2 : Below w.heap.size w w2 := (Below.refl _ _).grown hg2 (Nat.le_refl _) (fun k hk => by simp [Value.ownBlock] at hk)
    have hclx := compF_le x
    clear ho2 hg2 hx2 hn0 r1 hc0
    by_cases hc : (compF x).length = 1 + s
    · have hc' : (((compF x).length : Int) != 1 + (s : Int)) = false := by rw [hc]; simp
      have hf : expF (b :: r) = ((x : Int), 1 + s, 0) := by rw [HX.out, HXX.out.1, Int.toNat_natCast, if_neg (by rw [hc]; simp)]
      have HF := Lib.hid hf
      clear hf hc
      go_wp2
      go_ret3
      refine ⟨?_, b2⟩
      rw [HF.out]
      show _ = Ending.returned (Value.tuple #[.int .u64 (x : Int), .int .i64 ((1 + s : Nat) : Int), .int .i64 0])
      rw [Int.natCast_add]
      rfl
    · have hc' : (((compF x).length : Int) != 1 + (s : Int)) = true := by rw [bne_iff_ne]; omega
      have hf : expF (b :: r) = (0, 0, 2) := by rw [HX.out, HXX.out.1, Int.toNat_natCast, if_pos hc]
      have HF := Lib.hid hf
      clear hf hc
      go_wp2
      go_ret3
      refine ⟨?_, b2⟩
      rw [HF.out]
      rfl
theorem exp_calls (w : World) (A : Option Addr) (n c : Nat) (bs : List Int) (hnc : n ≤ c) (hcm : c ≤ maxLen) (hr : Rd w A n (nums .u8 bs)) (hbs : Bytes bs) :
    Calls Tryd.prog 64 #[.slice A n c] w (ExpPost w bs) := by
  have hl : bs.length = n := by have := hr.1; rwa [nums_length] at this
  have hcm' := hcm
  unfold maxLen at hcm'
  match bs, hl with
  | [], hl =>
    obtain rfl : n = 0 := hl.symm
    go_enter Tryd.func64, Tryd.ntmps64
    go_wp2
    go_ret3
    exact ⟨rfl, Below.refl _ _⟩
  | b :: r, hl =>
    have h0 := hbs b (by simp)
    obtain ⟨b0, o, rfl, hc⟩ := hr.2 (by rw [← hl]; simp)
    by_cases hb : b < 253
    · have hn0 : ((n : Int) == 0) = false := by rw [beq_eq_false_iff_ne]; simp only [List.length_cons] at hl; omega
      have hn1 : (0 : Int) < (n : Int) := by simp only [List.length_cons] at hl; omega
      have hc0 : w.cell? ⟨b0, o, none⟩ = some (.int .u8 b) := hc 0 _ rfl
      have hf : expF (b :: r) = (b, 1, 0) := by simp only [expF]; rw [if_pos hb]
      have HF := Lib.hid hf
      clear hf hl hc
      go_enter Tryd.func64, Tryd.ntmps64
      go_wp2
      go_ret3
      refine ⟨?_, Below.refl _ _⟩
      rw [HF.out]
      rfl
    · rcases (show b = 253 ∨ b = 254 ∨ b = 255 by omega) with rfl | rfl | rfl
      · exact exp_big w b0 o n c _ r 2 (by decide) (by decide) (.inl ⟨rfl, rfl⟩) hnc hcm hr hbs
      · exact exp_big w b0 o n c _ r 4 (by decide) (by decide) (.inr (.inl ⟨rfl, rfl⟩)) hnc hcm hr hbs
      · exact exp_big w b0 o n c _ r 8 (by decide) (by decide) (.inr (.inr ⟨rfl, rfl⟩)) hnc hcm hr hbs
end Go.Proofs.YtclkgflficlmiaaDoor
