/- SHA-256 in plain terms: what one step and the whole digest come to. | The whole digest in plain terms. -/
import Derived.Test.YtclkgflficlmiaaDoorBase
/-! ## ShaPure -/
section
set_option maxRecDepth 100000
namespace Go.Proofs.YtclkgflficlmiaaDoor
open Go Go.RowKit
def M32 (x : Int) : Int := x % 4294967296
def rotr (x n : Int) : Int := bits .or .u32 (x / 2 ^ n.toNat) (x * 2 ^ (32 - n).toNat % 4294967296)
def notF (e : Int) : Int := bits BinOp.xor IntKind.u32 (if IntKind.u32.signed = true then -1 else IntKind.u32.max) e
def sig0 (x : Int) : Int := bits .xor .u32 (bits .xor .u32 (rotr x 7) (rotr x 18)) (x / 8)
def sig1 (x : Int) : Int := bits .xor .u32 (bits .xor .u32 (rotr x 17) (rotr x 19)) (x / 1024)
def big0 (x : Int) : Int := bits .xor .u32 (bits .xor .u32 (rotr x 2) (rotr x 13)) (rotr x 22)
def big1 (x : Int) : Int := bits .xor .u32 (bits .xor .u32 (rotr x 6) (rotr x 11)) (rotr x 25)
def chF (e f g : Int) : Int := bits .xor .u32 (bits .and .u32 e f) (bits .and .u32 (notF e) g)
def majF (a b c : Int) : Int := bits .xor .u32 (bits .xor .u32 (bits .and .u32 a b) (bits .and .u32 a c)) (bits .and .u32 b c)
structure S8 where
  a : Int
  b : Int
  c : Int
  d : Int
  e : Int
  f : Int
  g : Int
  h : Int
def S8.list (s : S8) : List Int := [s.a, s.b, s.c, s.d, s.e, s.f, s.g, s.h]
def S8.cells (s : S8) : Array Value := #[.int .u32 s.a, .int .u32 s.b, .int .u32 s.c, .int .u32 s.d, .int .u32 s.e, .int .u32 s.f, .int .u32 s.g, .int .u32 s.h]
theorem S8.cells_eq (s : S8) : s.cells = (nums .u32 s.list).toArray := rfl
def first8 : S8 := ⟨0x6a09e667, 0xbb67ae85, 0x3c6ef372, 0xa54ff53a, 0x510e527f, 0x9b05688c, 0x1f83d9ab, 0x5be0cd19⟩
def adds : List Int := [
  0x428a2f98, 0x71374491, 0xb5c0fbcf, 0xe9b5dba5, 0x3956c25b, 0x59f111f1, 0x923f82a4, 0xab1c5ed5,
  0xd807aa98, 0x12835b01, 0x243185be, 0x550c7dc3, 0x72be5d74, 0x80deb1fe, 0x9bdc06a7, 0xc19bf174,
  0xe49b69c1, 0xefbe4786, 0x0fc19dc6, 0x240ca1cc, 0x2de92c6f, 0x4a7484aa, 0x5cb0a9dc, 0x76f988da,
  0x983e5152, 0xa831c66d, 0xb00327c8, 0xbf597fc7, 0xc6e00bf3, 0xd5a79147, 0x06ca6351, 0x14292967,
  0x27b70a85, 0x2e1b2138, 0x4d2c6dfc, 0x53380d13, 0x650a7354, 0x766a0abb, 0x81c2c92e, 0x92722c85,
  0xa2bfe8a1, 0xa81a664b, 0xc24b8b70, 0xc76c51a3, 0xd192e819, 0xd6990624, 0xf40e3585, 0x106aa070,
  0x19a4c116, 0x1e376c08, 0x2748774c, 0x34b0bcb5, 0x391c0cb3, 0x4ed8aa4a, 0x5b9cca4f, 0x682e6ff3,
  0x748f82ee, 0x78a5636f, 0x84c87814, 0x8cc70208, 0x90befffa, 0xa4506ceb, 0xbef9a3f7, 0xc67178f2]
/-- The number of four bytes, the highest first. -/
def word (bs : List Int) (i : Nat) : Int := rd bs (4 * i) * 16777216 + rd bs (4 * i + 1) * 65536 + rd bs (4 * i + 2) * 256 + rd bs (4 * i + 3)
def nextW (bs l : List Int) (n : Nat) : Int :=
  if n < 16 then word bs n else M32 (rd l (n - 16) + (sig0 (rd l (n - 15)) + rd l (n - 7) + sig1 (rd l (n - 2))))
/-- The first n numbers of the schedule. -/
def schL (bs : List Int) : Nat → List Int
  | 0 => []
  | n + 1 => schL bs n ++ [nextW bs (schL bs n) n]
theorem schL_length (bs : List Int) (n : Nat) : (schL bs n).length = n := by
  induction n with
  | zero => rfl
  | succ n ih => simp [schL, ih]
def sch (bs : List Int) (t : Nat) : Int := rd (schL bs (t + 1)) t
theorem schL_at (bs : List Int) (n : Nat) : ∀ t, t < n → rd (schL bs n) t = sch bs t := by
  induction n with
  | zero => intro t ht; omega
  | succ n ih =>
    intro t ht
    rcases Nat.lt_or_ge t n with h | h
    · rw [← ih t h]
      simp only [schL]
      exact rd_append_left _ _ _ (by rw [schL_length]; exact h)
    · obtain rfl : t = n := by omega
      rfl
theorem sch_eq (bs : List Int) (t : Nat) : sch bs t = nextW bs (schL bs t) t := by
  unfold sch
  simp only [schL]
  rw [rd_append_right _ _ _ (by rw [schL_length]; exact Nat.le_refl _), schL_length, Nat.sub_self]
  rfl
theorem sch_low (bs : List Int) (t : Nat) (h : t < 16) : sch bs t = word bs t := by rw [sch_eq, nextW, if_pos h]
theorem sch_high (bs : List Int) (t : Nat) (h : 16 ≤ t) : sch bs t = M32 (sch bs (t - 16) + (sig0 (sch bs (t - 15)) + sch bs (t - 7) + sig1 (sch bs (t - 2)))) := by
  rw [sch_eq, nextW, if_neg (by omega), schL_at _ _ _ (by omega), schL_at _ _ _ (by omega), schL_at _ _ _ (by omega), schL_at _ _ _ (by omega)]
def t1F (s : S8) (k x : Int) : Int := M32 (s.h + big1 s.e + chF s.e s.f s.g + k + x)
def t2F (s : S8) : Int := M32 (big0 s.a + majF s.a s.b s.c)
def rnd (s : S8) (k x : Int) : S8 := ⟨M32 (t1F s k x + t2F s), s.a, s.b, s.c, M32 (s.d + t1F s k x), s.e, s.f, s.g⟩
/-- The state behind n rounds. -/
def stN (s : S8) (bs : List Int) : Nat → S8
  | 0 => s
  | n + 1 => rnd (stN s bs n) (rd adds n) (sch bs n)
def add8 (s r : S8) : S8 := ⟨M32 (s.a + r.a), M32 (s.b + r.b), M32 (s.c + r.c), M32 (s.d + r.d), M32 (s.e + r.e), M32 (s.f + r.f), M32 (s.g + r.g), M32 (s.h + r.h)⟩
/-- One step: 64 bytes are taken into a state. -/
def stepF (s : S8) (bs : List Int) : S8 := add8 s (stN s bs 64)
/-- A place of sixteen, turned. -/
def ix (k d : Nat) : Nat := (k + d) % 16
theorem ix_lt (k d : Nat) : ix k d < 16 := Nat.mod_lt _ (by decide)
theorem ix_lt' (k d : Nat) : (ix k d : Int) < 16 := by have := ix_lt k d; omega
theorem i64_and_nat (a b : Nat) (ha : a < 9223372036854775808) (hb : b < 9223372036854775808) : bits .and .i64 (a : Int) (b : Int) = ((a &&& b : Nat) : Int) := by
  have h1 : (BitVec.ofInt 64 (a : Int)).toNat = a := by rw [BitVec.ofInt_natCast, BitVec.toNat_ofNat]; exact Nat.mod_eq_of_lt (by omega)
  have h2 : (BitVec.ofInt 64 (b : Int)).toNat = b := by rw [BitVec.ofInt_natCast, BitVec.toNat_ofNat]; exact Nat.mod_eq_of_lt (by omega)
  have hx : a &&& b < 2 ^ 63 := Nat.and_lt_two_pow _ (by omega)
  show IntKind.i64.wrap ((BitVec.ofInt 64 (a : Int) &&& BitVec.ofInt 64 (b : Int)).toNat : Int) = _
  rw [BitVec.toNat_and, h1, h2, IntKind.wrap_i64]
  omega
theorem i64_and15 (a : Nat) (ha : a < 9223372036854775808) : bits .and .i64 (a : Int) 15 = ((a % 16 : Nat) : Int) := by
  have := i64_and_nat a 15 ha (by omega)
  rw [nat_mask4] at this
  exact this
theorem ix_bits (k d : Nat) (hd : d < 16) : bits .and .i64 ((ix k 0 : Int) + d) 15 = (ix k d : Int) := by
  have h := ix_lt k 0
  have e : ((ix k 0 : Int) + d) = ((ix k 0 + d : Nat) : Int) := by omega
  rw [e, i64_and15 _ (by omega)]
  congr 1
  unfold ix
  omega
theorem ix_bits0 (k : Nat) (hk : k ≤ 64) : bits .and .i64 (k : Int) 15 = (ix k 0 : Int) := by
  rw [i64_and15 _ (by omega)]
  rfl
theorem ix_wrap (k d : Nat) (hd : d < 16) : IntKind.i64.wrap ((ix k 0 : Int) + d) = (ix k 0 : Int) + d := IntWalk.i64_in _ (by have := ix_lt k 0; omega)
/-- The window of sixteen holds the schedule's last numbers. -/
def Window (bs W : List Int) (k : Nat) : Prop := W.length = 16 ∧ ∀ t, t < k → k ≤ t + 16 → rd W (ix t 0) = sch bs t
theorem ix_ne (k t : Nat) (h1 : t < k) (h2 : k < t + 16) : ix k 0 ≠ ix t 0 := by unfold ix; omega
theorem ix_shift (k d : Nat) (h : 16 ≤ k + d) : ix k d = ix (k + d - 16) 0 := by unfold ix; omega
theorem Window.step {bs W : List Int} {k : Nat} (h : Window bs W k) : Window bs (W.set (ix k 0) (sch bs k)) (k + 1) := by
  refine ⟨by rw [List.length_set]; exact h.1, fun t ht hk => ?_⟩
  rcases Nat.lt_or_ge t k with hlt | hge
  · rw [rd_set_ne _ _ _ _ (ix_ne k t hlt (by omega))]
    exact h.2 t hlt (by omega)
  · obtain rfl : t = k := by omega
    exact rd_set_same _ _ _ (by rw [h.1]; exact ix_lt _ _)
theorem Window.at_ {bs W : List Int} {k : Nat} (h : Window bs W k) (d : Nat) (hd : d < 16) (hk : 16 ≤ k) : rd W (ix k d) = sch bs (k + d - 16) := by
  rw [ix_shift k d (by omega)]
  exact h.2 _ (by omega) (by omega)
theorem Window.zero (bs : List Int) : Window bs (List.replicate 16 0) 0 := ⟨by simp, fun t ht => by omega⟩
/-- Four bytes laid side by side. -/
theorem word_or (a b c d : Int) (ha : 0 ≤ a ∧ a ≤ 255) (hb : 0 ≤ b ∧ b ≤ 255) (hc : 0 ≤ c ∧ c ≤ 255) (hd : 0 ≤ d ∧ d ≤ 255) :
    bits .or .u32 (bits .or .u32 (bits .or .u32 (a * 16777216) (b * 65536)) (c * 256)) d = a * 16777216 + b * 65536 + c * 256 + d := by
  obtain ⟨a, rfl⟩ := Int.eq_ofNat_of_zero_le ha.1
  obtain ⟨b, rfl⟩ := Int.eq_ofNat_of_zero_le hb.1
  obtain ⟨c, rfl⟩ := Int.eq_ofNat_of_zero_le hc.1
  obtain ⟨d, rfl⟩ := Int.eq_ofNat_of_zero_le hd.1
  have ha := ha.2
  have hb := hb.2
  have hc := hc.2
  have hd := hd.2
  have e1 : bits .or .u32 ((a : Int) * 16777216) ((b : Int) * 65536) = ((a * 16777216 + b * 65536 : Nat) : Int) := by
    have := u32_or_nat (a * 16777216) (b * 65536) (by omega) (by omega)
    rw [nat_join 24 (a * 16777216) (b * 65536) (by omega) (by omega)] at this
    rw [show (a : Int) * 16777216 = ((a * 16777216 : Nat) : Int) by omega, show (b : Int) * 65536 = ((b * 65536 : Nat) : Int) by omega]
    exact this
  have e2 : bits .or .u32 ((a * 16777216 + b * 65536 : Nat) : Int) ((c : Int) * 256) = ((a * 16777216 + b * 65536 + c * 256 : Nat) : Int) := by
    have := u32_or_nat (a * 16777216 + b * 65536) (c * 256) (by omega) (by omega)
    rw [nat_join 16 (a * 16777216 + b * 65536) (c * 256) (by omega) (by omega)] at this
    rw [show (c : Int) * 256 = ((c * 256 : Nat) : Int) by omega]
    exact this
  have e3 : bits .or .u32 ((a * 16777216 + b * 65536 + c * 256 : Nat) : Int) (d : Int) = ((a * 16777216 + b * 65536 + c * 256 + d : Nat) : Int) := by
    have := u32_or_nat (a * 16777216 + b * 65536 + c * 256) d (by omega) (by omega)
    rw [nat_join 8 (a * 16777216 + b * 65536 + c * 256) d (by omega) (by omega)] at this
    exact this
  rw [e1, e2, e3]
  omega
end Go.Proofs.YtclkgflficlmiaaDoor
end

/-! ## SumPure -/
section
set_option maxRecDepth 100000
namespace Go.Proofs.YtclkgflficlmiaaDoor
open Go Go.RowKit
def runN (s : S8) (bs : List Int) : Nat → S8
  | 0 => s
  | k + 1 => stepF (runN s bs k) (bs.drop (64 * k))
def padz (n : Nat) : Nat := (119 - n % 64) % 64
def bitsF (n : Nat) : Nat := n * 8 % 18446744073709551616
def byteF (n i : Nat) : Int := ((bitsF n / 2 ^ (8 * i) % 256 : Nat) : Int)
def be8 (n : Nat) : List Int := [byteF n 7, byteF n 6, byteF n 5, byteF n 4, byteF n 3, byteF n 2, byteF n 1, byteF n 0]
def pad (bs : List Int) : List Int := bs ++ (128 :: (List.replicate (padz bs.length) 0 ++ be8 bs.length))
def outB (s : S8) (i : Nat) : Int := rd s.list (i / 4) / 2 ^ (24 - 8 * (i % 4)) % 256
def outF (s : S8) : List Int := (List.range 32).map (outB s)
def blocks (n : Nat) : Nat := n / 64 + if n % 64 < 56 then 1 else 2
def tailSize (n : Nat) : Nat := if n % 64 < 56 then 64 else 128
def sumF (bs : List Int) : List Int := outF (runN first8 (pad bs) (blocks bs.length))
theorem tail_blocks (n : Nat) : 64 * (n / 64) + tailSize n = 64 * blocks n := by unfold tailSize blocks; split <;> omega
theorem padz_eq (n : Nat) : n + 1 + padz n + 8 = 64 * blocks n := by unfold padz blocks; split <;> omega
theorem pad_length (bs : List Int) : (pad bs).length = 64 * blocks bs.length := by
  rw [← padz_eq]
  simp only [pad, List.length_append, List.length_cons, List.length_replicate, be8, List.length_nil]
  omega
theorem byteF_range (n i : Nat) : 0 ≤ byteF n i ∧ byteF n i ≤ 255 := by unfold byteF; omega
theorem be8_bytes (n : Nat) : Bytes (be8 n) := by
  intro x hx
  simp only [be8, List.mem_cons, List.not_mem_nil, or_false] at hx
  rcases hx with rfl | rfl | rfl | rfl | rfl | rfl | rfl | rfl <;> exact byteF_range _ _
theorem zeros_bytes (n : Nat) : Bytes (List.replicate n 0) := fun x hx => by obtain rfl := List.eq_of_mem_replicate hx; omega
theorem pad_bytes (bs : List Int) (h : Bytes bs) : Bytes (pad bs) := by
  refine h.append fun x hx => ?_
  rcases List.mem_cons.1 hx with rfl | hx
  · omega
  · exact ((zeros_bytes _).append (be8_bytes _)) x hx
theorem rd_replicate (n i : Nat) : rd (List.replicate n 0) i = 0 := by
  rcases Nat.lt_or_ge i n with h | h
  · unfold rd; simp [List.getD_eq_getElem?_getD, h]
  · exact rd_beyond _ _ (by simpa using h)
theorem rd_be8 (n i : Nat) (h : i < 8) : rd (be8 n) i = byteF n (7 - i) := by
  rcases i with _ | _ | _ | _ | _ | _ | _ | _ | i <;> first | rfl | omega
theorem pad_low (bs : List Int) (i : Nat) (h : i < bs.length) : rd (pad bs) i = rd bs i := rd_append_left _ _ _ h
theorem rd_cons0 (x : Int) (xs : List Int) : rd (x :: xs) 0 = x := rfl
theorem rd_cons1 (x : Int) (xs : List Int) (i : Nat) : rd (x :: xs) (i + 1) = rd xs i := rfl
theorem pad_mark (bs : List Int) : rd (pad bs) bs.length = 128 := by
  unfold pad
  rw [rd_append_right _ _ _ (Nat.le_refl _), Nat.sub_self, rd_cons0]
theorem pad_zero (bs : List Int) (i : Nat) (h : bs.length < i) (h2 : i + 8 < 64 * blocks bs.length) : rd (pad bs) i = 0 := by
  have e := padz_eq bs.length
  unfold pad
  rw [rd_append_right _ _ _ (by omega), show i - bs.length = (i - bs.length - 1) + 1 by omega, rd_cons1]
  rcases Nat.lt_or_ge (i - bs.length - 1) (padz bs.length) with hl | hl
  · rw [rd_append_left _ _ _ (by simpa using hl), rd_replicate]
  · omega
theorem pad_zero' (bs : List Int) (i : Nat) (h : bs.length < i) (h2 : i + 8 < 64 * blocks bs.length) : rd (pad bs) i = 0 := pad_zero bs i h h2
theorem pad_high (bs : List Int) (i : Nat) (h : 64 * blocks bs.length ≤ i + 8) (h2 : i < 64 * blocks bs.length) : rd (pad bs) i = byteF bs.length (64 * blocks bs.length - 1 - i) := by
  have e := padz_eq bs.length
  unfold pad
  rw [rd_append_right _ _ _ (by omega), show i - bs.length = (i - bs.length - 1) + 1 by omega, rd_cons1, rd_append_right _ _ _ (by rw [List.length_replicate]; omega), List.length_replicate, rd_be8 _ _ (by omega)]
  congr 1
  omega
/-- The last bytes, while the length is laid byte by byte (i bytes of it so far). -/
def Tail (bs : List Int) (i : Nat) (E : List Int) : Prop :=
  E.length = 128 ∧ Bytes E ∧ ∀ j, j < 128 → rd E j = if j < bs.length % 64 then rd bs (64 * (bs.length / 64) + j) else if j = bs.length % 64 then 128
    else if j < tailSize bs.length ∧ tailSize bs.length ≤ j + i then byteF bs.length (tailSize bs.length - 1 - j) else 0
theorem Bytes.set {xs : List Int} (h : Bytes xs) (i : Nat) (x : Int) (hx : 0 ≤ x ∧ x ≤ 255) : Bytes (xs.set i x) := fun y hy => by
  rcases List.mem_or_eq_of_mem_set hy with hy | rfl
  · exact h y hy
  · exact hx
theorem tail_room (n : Nat) : n % 64 + 9 ≤ tailSize n ∧ tailSize n ≤ 128 := by unfold tailSize; split <;> omega
theorem Tail.zero (bs : List Int) (hb : Bytes bs) : Tail bs 0 ((bs.drop (64 * (bs.length / 64)) ++ (List.replicate 128 0).drop (bs.length % 64)).set (bs.length % 64) 128) := by
  have hr : (bs.drop (64 * (bs.length / 64))).length = bs.length % 64 := by rw [List.length_drop]; omega
  have hlen : (bs.drop (64 * (bs.length / 64)) ++ (List.replicate 128 0).drop (bs.length % 64)).length = 128 := by
    rw [List.length_append, hr, List.length_drop, List.length_replicate]; omega
  refine ⟨by rw [List.length_set, hlen], ((hb.drop _).append ((zeros_bytes _).drop _)).set _ _ (by omega), fun j hj => ?_⟩
  by_cases h1 : j < bs.length % 64
  · rw [if_pos h1, rd_set_ne _ _ _ _ (by omega), rd_append_left _ _ _ (by rw [hr]; exact h1), rd_drop]
  · rw [if_neg h1]
    by_cases h2 : j = bs.length % 64
    · rw [if_pos h2, h2, rd_set_same _ _ _ (by rw [hlen]; omega)]
    · rw [if_neg h2, if_neg (by omega), rd_set_ne _ _ _ _ (by omega), rd_append_right _ _ _ (by rw [hr]; omega), rd_drop, rd_replicate]
theorem Tail.step {bs : List Int} {i : Nat} {E : List Int} (h : Tail bs i E) (hi : i < 8) : Tail bs (i + 1) (E.set (tailSize bs.length - 1 - i) (byteF bs.length i)) := by
  have hroom := tail_room bs.length
  refine ⟨by rw [List.length_set]; exact h.1, h.2.1.set _ _ (byteF_range _ _), fun j hj => ?_⟩
  by_cases h0 : tailSize bs.length - 1 - i = j
  · rw [h0, rd_set_same _ _ _ (by rw [h.1]; exact hj), if_neg (by omega), if_neg (by omega), if_pos (by omega)]
    congr 1
    omega
  · rw [rd_set_ne _ _ _ _ h0, h.2.2 j hj]
    by_cases h1 : j < bs.length % 64
    · rw [if_pos h1, if_pos h1]
    · rw [if_neg h1, if_neg h1]
      by_cases h2 : j = bs.length % 64
      · rw [if_pos h2, if_pos h2]
      · rw [if_neg h2, if_neg h2]
        by_cases h3 : j < tailSize bs.length ∧ tailSize bs.length ≤ j + i
        · rw [if_pos h3, if_pos (by omega)]
        · rw [if_neg h3, if_neg (by omega)]
theorem Tail.done {bs : List Int} {E : List Int} (h : Tail bs 8 E) (j : Nat) (hj : j < tailSize bs.length) : rd E j = rd (pad bs) (64 * (bs.length / 64) + j) := by
  have hroom := tail_room bs.length
  have hb := tail_blocks bs.length
  rw [h.2.2 j (by omega)]
  by_cases h1 : j < bs.length % 64
  · rw [if_pos h1, pad_low _ _ (by omega)]
  · rw [if_neg h1]
    by_cases h2 : j = bs.length % 64
    · rw [if_pos h2, show 64 * (bs.length / 64) + j = bs.length by omega, pad_mark]
    · rw [if_neg h2]
      by_cases h3 : j < tailSize bs.length ∧ tailSize bs.length ≤ j + 8
      · rw [if_pos h3, pad_high _ _ (by omega) (by omega)]
        congr 1
        omega
      · rw [if_neg h3, pad_zero _ _ (by omega) (by omega)]
theorem outF_length (s : S8) : (outF s).length = 32 := by simp [outF]
theorem rd_outF (s : S8) (i : Nat) (h : i < 32) : rd (outF s) i = outB s i := by
  unfold rd outF; simp [List.getD_eq_getElem?_getD, h]
theorem sumF_length (bs : List Int) : (sumF bs).length = 32 := outF_length _
theorem outF_bytes (s : S8) : Bytes (outF s) := by
  intro x hx
  simp only [outF, List.mem_map] at hx
  obtain ⟨i, _, rfl⟩ := hx
  unfold outB
  have := Int.emod_nonneg (rd s.list (i / 4) / 2 ^ (24 - 8 * (i % 4))) (show (256 : Int) ≠ 0 by decide)
  have := Int.emod_lt_of_pos (rd s.list (i / 4) / 2 ^ (24 - 8 * (i % 4))) (show (0 : Int) < 256 by decide)
  omega
theorem sumF_bytes (bs : List Int) : Bytes (sumF bs) := outF_bytes _
/-- The digest's bytes, while they are laid one by one. -/
def OutL (s : S8) (i : Nat) (L : List Int) : Prop := L.length = 32 ∧ ∀ j, j < i → rd L j = outB s j
theorem OutL.zero (s : S8) : OutL s 0 (List.replicate 32 0) := ⟨by simp, fun j hj => by omega⟩
theorem OutL.step {s : S8} {i : Nat} {L : List Int} (h : OutL s i L) (hi : i < 32) : OutL s (i + 1) (L.set i (outB s i)) := by
  refine ⟨by rw [List.length_set]; exact h.1, fun j hj => ?_⟩
  rcases Nat.lt_or_ge j i with hl | hl
  · rw [rd_set_ne _ _ _ _ (by omega)]; exact h.2 j hl
  · obtain rfl : j = i := by omega
    exact rd_set_same _ _ _ (by rw [h.1]; exact hi)
theorem OutL.done {s : S8} {L : List Int} (h : OutL s 32 L) : L = outF s := by
  refine rd_ext _ _ (by rw [h.1, outF_length]) fun i hi => ?_
  rw [h.1] at hi
  rw [h.2 i hi, rd_outF s i hi]
end Go.Proofs.YtclkgflficlmiaaDoor
end
