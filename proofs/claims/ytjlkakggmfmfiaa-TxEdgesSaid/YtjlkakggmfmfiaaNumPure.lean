/- Numbers laid with their lowest byte first, in plain terms. -/
import Derived.Test.YtjlkakggmfmfiaaWords
set_option linter.unusedVariables false
namespace Go.Proofs.Ytjlkakggmfmfiaa
open Go Go.RowKit
/-- The lowest n bytes of a number, the lowest first. -/
def leF (n x : Nat) : List Int := (List.range n).map fun k => ((x / 256 ^ k % 256 : Nat) : Int)
theorem leF_length (n x : Nat) : (leF n x).length = n := by simp [leF]
theorem leF_bytes (n x : Nat) : Bytes (leF n x) := by
  intro y hy
  simp only [leF, List.mem_map] at hy
  obtain ⟨k, _, rfl⟩ := hy
  omega
theorem leF_zero (x : Nat) : leF 0 x = [] := rfl
theorem leF_succ (n x : Nat) : leF (n + 1) x = leF n x ++ [((x / 256 ^ n % 256 : Nat) : Int)] := by simp [leF, List.range_succ]
theorem leF_cons (n x : Nat) : leF (n + 1) x = ((x % 256 : Nat) : Int) :: leF n (x / 256) := by
  simp only [leF, List.range_succ_eq_map, List.map_cons, List.map_map, Nat.pow_zero, Nat.div_one]
  congr 1
  apply List.map_congr_left
  intro k _
  simp only [Function.comp, Nat.succ_eq_add_one]
  rw [Nat.pow_succ, Nat.mul_comm, Nat.div_div_eq_div_mul]
/-- The number of bytes, the lowest first. -/
def ofLE : List Int → Int
  | [] => 0
  | b :: bs => b + 256 * ofLE bs
theorem ofLE_range : ∀ (bs : List Int), Bytes bs → 0 ≤ ofLE bs ∧ ofLE bs < 256 ^ bs.length
  | [], _ => by simp [ofLE]
  | b :: bs, h => by
    have h1 := h b (by simp)
    have h2 := ofLE_range bs (fun x hx => h x (List.mem_cons_of_mem _ hx))
    rw [ofLE, List.length_cons, Int.pow_succ]
    omega
theorem ofLE_leF : ∀ (n x : Nat), ofLE (leF n x) = ((x % 256 ^ n : Nat) : Int)
  | 0, x => by simp [leF, ofLE, Nat.mod_one]
  | n + 1, x => by
    rw [leF_cons, ofLE, ofLE_leF n (x / 256), Nat.pow_succ, Nat.mul_comm (256 ^ n) 256, Nat.mod_mul]
    omega
theorem leF_ofLE : ∀ (bs : List Int), Bytes bs → leF bs.length (ofLE bs).toNat = bs
  | [], _ => rfl
  | b :: bs, h => by
    have h1 := h b (by simp)
    have hb : Bytes bs := fun x hx => h x (List.mem_cons_of_mem _ hx)
    have h2 := ofLE_range bs hb
    have ih := leF_ofLE bs hb
    rw [List.length_cons, leF_cons, ofLE]
    have e1 : (((b + 256 * ofLE bs).toNat % 256 : Nat) : Int) = b := by omega
    have e2 : (b + 256 * ofLE bs).toNat / 256 = (ofLE bs).toNat := by omega
    rw [e1, e2, ih]
theorem ofLE_drop (bs : List Int) (i : Nat) (h : i < bs.length) : ofLE (bs.drop i) = rd bs i + 256 * ofLE (bs.drop (i + 1)) := by
  rw [List.drop_eq_getElem_cons h, ofLE]
  have : rd bs i = bs[i] := by simp [rd, List.getD_eq_getElem?_getD, List.getElem?_eq_getElem h]
  rw [this]
theorem nat_or256 (m b : Nat) (hb : b < 256) : (m * 256 ||| b) = m * 256 + b := by
  have h := Nat.shiftLeft_add_eq_or_of_lt (i := 8) (b := b) hb m
  rw [Nat.shiftLeft_eq] at h
  exact h.symm
theorem u64_or256 (m b : Int) (h0 : 0 ≤ m) (h1 : m < 72057594037927936) (hb0 : 0 ≤ b) (hb1 : b ≤ 255) : bits .or .u64 (m * 256) b = b + 256 * m := by
  obtain ⟨m, rfl⟩ := Int.eq_ofNat_of_zero_le h0
  obtain ⟨b, rfl⟩ := Int.eq_ofNat_of_zero_le hb0
  have := u64_or_nat (m * 256) b (by omega) (by omega)
  rw [nat_or256 m b (by omega)] at this
  rw [show (m : Int) * 256 = ((m * 256 : Nat) : Int) by omega, this]
  omega
theorem div256 (x k : Nat) : x / 256 ^ k / 256 = x / 256 ^ (k + 1) := by rw [Nat.div_div_eq_div_mul, Nat.pow_succ]
end Go.Proofs.Ytjlkakggmfmfiaa
