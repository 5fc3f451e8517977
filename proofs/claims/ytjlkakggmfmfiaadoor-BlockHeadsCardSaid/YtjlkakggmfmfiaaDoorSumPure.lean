/- The whole digest in plain terms. -/
import Derived.Test.YtjlkakggmfmfiaaDoorShaPure
set_option maxRecDepth 100000
namespace Go.Proofs.YtjlkakggmfmfiaaDoor
open Go Go.RowKit
def runN (s : S8) (bs : List Int) : Nat → S8
  | 0 => s
  | k + 1 => stepF (runN s bs k) (bs.drop (64 * k))
def padz (n : Nat) : Nat := (119 - n % 64) % 64
def bitsF (n : Nat) : Nat := n * 8 % 18446744073709551616
def byteF (n i : Nat) : Int := ((bitsF n / 2 ^ (8 * i) % 256 : Nat) : Int)
def be8 (n : Nat) : List Int := [byteF n 7, byteF n 6, byteF n 5, byteF n 4, byteF n 3, byteF n 2, byteF n 1, byteF n 0]
def pad (bs : List Int) : List Int := bs ++ (128 :: (List.replicate (padz bs.length) 0 ++ be8 bs.length))
def outB (s : S8) (i : Nat) : Int := rd s.list (i / 4) / 2 ^ (24 - 8 * (i % 4)) % 256
def outF (s : S8) : List Int := (List.range 32).map (outB s)
def blocks (n : Nat) : Nat := n / 64 + if n % 64 < 56 then 1 else 2
def tailSize (n : Nat) : Nat := if n % 64 < 56 then 64 else 128
def sumF (bs : List Int) : List Int := outF (runN first8 (pad bs) (blocks bs.length))
theorem tail_blocks (n : Nat) : 64 * (n / 64) + tailSize n = 64 * blocks n := by unfold tailSize blocks; split <;> omega
theorem padz_eq (n : Nat) : n + 1 + padz n + 8 = 64 * blocks n := by unfold padz blocks; split <;> omega
theorem pad_length (bs : List Int) : (pad bs).length = 64 * blocks bs.length := by
  rw [← padz_eq]
  simp only [pad, List.length_append, List.length_cons, List.length_replicate, be8, List.length_nil]
  omega
theorem byteF_range (n i : Nat) : 0 ≤ byteF n i ∧ byteF n i ≤ 255 := by unfold byteF; omega
theorem be8_bytes (n : Nat) : Bytes (be8 n) := by
  intro x hx
  simp only [be8, List.mem_cons, List.not_mem_nil, or_false] at hx
  rcases hx with rfl | rfl | rfl | rfl | rfl | rfl | rfl | rfl <;> exact byteF_range _ _
theorem zeros_bytes (n : Nat) : Bytes (List.replicate n 0) := fun x hx => by obtain rfl := List.eq_of_mem_replicate hx; omega
theorem pad_bytes (bs : List Int) (h : Bytes bs) : Bytes (pad bs) := by
  refine h.append fun x hx => ?_
  rcases List.mem_cons.1 hx with rfl | hx
  · omega
  · exact ((zeros_bytes _).append (be8_bytes _)) x hx
theorem rd_replicate (n i : Nat) : rd (List.replicate n 0) i = 0 := by
  rcases Nat.lt_or_ge i n with h | h
  · unfold rd; simp [List.getD_eq_getElem?_getD, h]
  · exact rd_beyond _ _ (by simpa using h)
theorem rd_be8 (n i : Nat) (h : i < 8) : rd (be8 n) i = byteF n (7 - i) := by
  rcases i with _ | _ | _ | _ | _ | _ | _ | _ | i <;> first | rfl | omega
theorem pad_low (bs : List Int) (i : Nat) (h : i < bs.length) : rd (pad bs) i = rd bs i := rd_append_left _ _ _ h
theorem rd_cons0 (x : Int) (xs : List Int) : rd (x :: xs) 0 = x := rfl
theorem rd_cons1 (x : Int) (xs : List Int) (i : Nat) : rd (x :: xs) (i + 1) = rd xs i := rfl
theorem pad_mark (bs : List Int) : rd (pad bs) bs.length = 128 := by
  unfold pad
  rw [rd_append_right _ _ _ (Nat.le_refl _), Nat.sub_self, rd_cons0]
theorem pad_zero (bs : List Int) (i : Nat) (h : bs.length < i) (h2 : i + 8 < 64 * blocks bs.length) : rd (pad bs) i = 0 := by
  have e := padz_eq bs.length
  unfold pad
  rw [rd_append_right _ _ _ (by omega), show i - bs.length = (i - bs.length - 1) + 1 by omega, rd_cons1]
  rcases Nat.lt_or_ge (i - bs.length - 1) (padz bs.length) with hl | hl
  · rw [rd_append_left _ _ _ (by simpa using hl), rd_replicate]
  · omega
theorem pad_zero' (bs : List Int) (i : Nat) (h : bs.length < i) (h2 : i + 8 < 64 * blocks bs.length) : rd (pad bs) i = 0 := pad_zero bs i h h2
theorem pad_high (bs : List Int) (i : Nat) (h : 64 * blocks bs.length ≤ i + 8) (h2 : i < 64 * blocks bs.length) : rd (pad bs) i = byteF bs.length (64 * blocks bs.length - 1 - i) := by
  have e := padz_eq bs.length
  unfold pad
  rw [rd_append_right _ _ _ (by omega), show i - bs.length = (i - bs.length - 1) + 1 by omega, rd_cons1, rd_append_right _ _ _ (by rw [List.length_replicate]; omega), List.length_replicate, rd_be8 _ _ (by omega)]
  congr 1
  omega
/-- The last bytes, while the length is laid byte by byte (i bytes of it so far). -/
def Tail (bs : List Int) (i : Nat) (E : List Int) : Prop :=
  E.length = 128 ∧ Bytes E ∧ ∀ j, j < 128 → rd E j = if j < bs.length % 64 then rd bs (64 * (bs.length / 64) + j) else if j = bs.length % 64 then 128
    else if j < tailSize bs.length ∧ tailSize bs.length ≤ j + i then byteF bs.length (tailSize bs.length - 1 - j) else 0
theorem Bytes.set {xs : List Int} (h : Bytes xs) (i : Nat) (x : Int) (hx : 0 ≤ x ∧ x ≤ 255) : Bytes (xs.set i x) := fun y hy => by
  rcases List.mem_or_eq_of_mem_set hy with hy | rfl
  · exact h y hy
  · exact hx
theorem tail_room (n : Nat) : n % 64 + 9 ≤ tailSize n ∧ tailSize n ≤ 128 := by unfold tailSize; split <;> omega
theorem Tail.zero (bs : List Int) (hb : Bytes bs) : Tail bs 0 ((bs.drop (64 * (bs.length / 64)) ++ (List.replicate 128 0).drop (bs.length % 64)).set (bs.length % 64) 128) := by
  have hr : (bs.drop (64 * (bs.length / 64))).length = bs.length % 64 := by rw [List.length_drop]; omega
  have hlen : (bs.drop (64 * (bs.length / 64)) ++ (List.replicate 128 0).drop (bs.length % 64)).length = 128 := by
    rw [List.length_append, hr, List.length_drop, List.length_replicate]; omega
  refine ⟨by rw [List.length_set, hlen], ((hb.drop _).append ((zeros_bytes _).drop _)).set _ _ (by omega), fun j hj => ?_⟩
  by_cases h1 : j < bs.length % 64
  · rw [if_pos h1, rd_set_ne _ _ _ _ (by omega), rd_append_left _ _ _ (by rw [hr]; exact h1), rd_drop]
  · rw [if_neg h1]
    by_cases h2 : j = bs.length % 64
    · rw [if_pos h2, h2, rd_set_same _ _ _ (by rw [hlen]; omega)]
    · rw [if_neg h2, if_neg (by omega), rd_set_ne _ _ _ _ (by omega), rd_append_right _ _ _ (by rw [hr]; omega), rd_drop, rd_replicate]
theorem Tail.step {bs : List Int} {i : Nat} {E : List Int} (h : Tail bs i E) (hi : i < 8) : Tail bs (i + 1) (E.set (tailSize bs.length - 1 - i) (byteF bs.length i)) := by
  have hroom := tail_room bs.length
  refine ⟨by rw [List.length_set]; exact h.1, h.2.1.set _ _ (byteF_range _ _), fun j hj => ?_⟩
  by_cases h0 : tailSize bs.length - 1 - i = j
  · rw [h0, rd_set_same _ _ _ (by rw [h.1]; exact hj), if_neg (by omega), if_neg (by omega), if_pos (by omega)]
    congr 1
    omega
  · rw [rd_set_ne _ _ _ _ h0, h.2.2 j hj]
    by_cases h1 : j < bs.length % 64
    · rw [if_pos h1, if_pos h1]
    · rw [if_neg h1, if_neg h1]
      by_cases h2 : j = bs.length % 64
      · rw [if_pos h2, if_pos h2]
      · rw [if_neg h2, if_neg h2]
        by_cases h3 : j < tailSize bs.length ∧ tailSize bs.length ≤ j + i
        · rw [if_pos h3, if_pos (by omega)]
        · rw [if_neg h3, if_neg (by omega)]
theorem Tail.done {bs : List Int} {E : List Int} (h : Tail bs 8 E) (j : Nat) (hj : j < tailSize bs.length) : rd E j = rd (pad bs) (64 * (bs.length / 64) + j) := by
  have hroom := tail_room bs.length
  have hb := tail_blocks bs.length
  rw [h.2.2 j (by omega)]
  by_cases h1 : j < bs.length % 64
  · rw [if_pos h1, pad_low _ _ (by omega)]
  · rw [if_neg h1]
    by_cases h2 : j = bs.length % 64
    · rw [if_pos h2, show 64 * (bs.length / 64) + j = bs.length by omega, pad_mark]
    · rw [if_neg h2]
      by_cases h3 : j < tailSize bs.length ∧ tailSize bs.length ≤ j + 8
      · rw [if_pos h3, pad_high _ _ (by omega) (by omega)]
        congr 1
        omega
      · rw [if_neg h3, pad_zero _ _ (by omega) (by omega)]
theorem outF_length (s : S8) : (outF s).length = 32 := by simp [outF]
theorem rd_outF (s : S8) (i : Nat) (h : i < 32) : rd (outF s) i = outB s i := by
  unfold rd outF; simp [List.getD_eq_getElem?_getD, h]
theorem sumF_length (bs : List Int) : (sumF bs).length = 32 := outF_length _
theorem outF_bytes (s : S8) : Bytes (outF s) := by
  intro x hx
  simp only [outF, List.mem_map] at hx
  obtain ⟨i, _, rfl⟩ := hx
  unfold outB
  have := Int.emod_nonneg (rd s.list (i / 4) / 2 ^ (24 - 8 * (i % 4))) (show (256 : Int) ≠ 0 by decide)
  have := Int.emod_lt_of_pos (rd s.list (i / 4) / 2 ^ (24 - 8 * (i % 4))) (show (0 : Int) < 256 by decide)
  omega
theorem sumF_bytes (bs : List Int) : Bytes (sumF bs) := outF_bytes _
/-- The digest's bytes, while they are laid one by one. -/
def OutL (s : S8) (i : Nat) (L : List Int) : Prop := L.length = 32 ∧ ∀ j, j < i → rd L j = outB s j
theorem OutL.zero (s : S8) : OutL s 0 (List.replicate 32 0) := ⟨by simp, fun j hj => by omega⟩
theorem OutL.step {s : S8} {i : Nat} {L : List Int} (h : OutL s i L) (hi : i < 32) : OutL s (i + 1) (L.set i (outB s i)) := by
  refine ⟨by rw [List.length_set]; exact h.1, fun j hj => ?_⟩
  rcases Nat.lt_or_ge j i with hl | hl
  · rw [rd_set_ne _ _ _ _ (by omega)]; exact h.2 j hl
  · obtain rfl : j = i := by omega
    exact rd_set_same _ _ _ (by rw [h.1]; exact hi)
theorem OutL.done {s : S8} {L : List Int} (h : OutL s 32 L) : L = outF s := by
  refine rd_ext _ _ (by rw [h.1, outF_length]) fun i hi => ?_
  rw [h.1] at hi
  rw [h.2 i hi, rd_outF s i hi]
end Go.Proofs.YtjlkakggmfmfiaaDoor
