/- Long numbers in parts of 16 bits, in plain terms. -/
import Derived.Test.YtjlkakggmfmfiaaDoorWords
set_option maxRecDepth 100000
namespace Go.Proofs.YtjlkakggmfmfiaaDoor
open Go Go.RowKit
def PB : Int := 65536
/-- The number that the first n parts make. -/
def valN (xs : List Int) : Nat → Int
  | 0 => 0
  | n + 1 => valN xs n + rd xs n * PB ^ n
def Parts (xs : List Int) : Prop := ∀ x ∈ xs, 0 ≤ x ∧ x ≤ 65535
theorem Parts.rd {xs : List Int} (h : Parts xs) (i : Nat) : 0 ≤ rd xs i ∧ rd xs i ≤ 65535 := by
  rcases Nat.lt_or_ge i xs.length with hl | hl
  · exact h _ (rd_mem xs i hl)
  · rw [rd_beyond xs i hl]; omega
theorem Parts.set {xs : List Int} (h : Parts xs) (i : Nat) (x : Int) (hx : 0 ≤ x ∧ x ≤ 65535) : Parts (xs.set i x) := fun y hy => by
  rcases List.mem_or_eq_of_mem_set hy with hy | rfl
  · exact h y hy
  · exact hx
theorem PB_pos (n : Nat) : (0 : Int) < PB ^ n := Int.pow_pos (by decide)
theorem PB_succ (n : Nat) : PB ^ (n + 1) = PB ^ n * 65536 := Int.pow_succ _ _
theorem PB_add (m n : Nat) : PB ^ (m + n) = PB ^ m * PB ^ n := Int.pow_add _ _ _
theorem valN_set (xs : List Int) (i : Nat) (y : Int) (hi : i < xs.length) (n : Nat) : valN (xs.set i y) n = valN xs n + if i < n then (y - rd xs i) * PB ^ i else 0 := by
  induction n with
  | zero => simp [valN]
  | succ n ih =>
    simp only [valN, ih]
    rcases Nat.lt_trichotomy i n with h | h | h
    · rw [if_pos h, if_pos (by omega), rd_set_ne _ _ _ _ (by omega)]
      omega
    · subst h
      rw [if_neg (by omega), if_pos (by omega), rd_set_same _ _ _ hi, Int.sub_mul]
      omega
    · rw [if_neg (by omega), if_neg (by omega), rd_set_ne _ _ _ _ (by omega)]
      omega
theorem valN_zero (xs : List Int) (n : Nat) (h : ∀ i, i < n → rd xs i = 0) : valN xs n = 0 := by
  induction n with
  | zero => rfl
  | succ n ih => rw [valN, ih (fun i hi => h i (by omega)), h n (by omega)]; simp
theorem valN_ext (xs ys : List Int) (n : Nat) (h : ∀ i, i < n → rd xs i = rd ys i) : valN xs n = valN ys n := by
  induction n with
  | zero => rfl
  | succ n ih => rw [valN, valN, ih (fun i hi => h i (by omega)), h n (by omega)]
theorem valN_range {xs : List Int} (h : Parts xs) (n : Nat) : 0 ≤ valN xs n ∧ valN xs n < PB ^ n := by
  induction n with
  | zero => exact ⟨Int.le_refl _, PB_pos 0⟩
  | succ n ih =>
    have hr := h.rd n
    have hp := PB_pos n
    rw [valN, PB_succ]
    have h1 : 0 ≤ rd xs n * PB ^ n := Int.mul_nonneg hr.1 (Int.le_of_lt hp)
    have h2 : rd xs n * PB ^ n ≤ 65535 * PB ^ n := Int.mul_le_mul_of_nonneg_right hr.2 (Int.le_of_lt hp)
    omega
theorem valN_len (xs : List Int) (n : Nat) (h : xs.length ≤ n) : valN xs n = valN xs xs.length := by
  induction n with
  | zero => rw [show xs.length = 0 by omega]
  | succ n ih =>
    rcases Nat.lt_or_ge xs.length (n + 1) with hl | hl
    · rw [valN, rd_beyond xs n (by omega), ih (by omega)]; simp
    · rw [show n + 1 = xs.length by omega]
/-- The lists agree from the top down to n; below it the first decides. -/
theorem valN_gt {xs ys : List Int} (hx : Parts xs) (hy : Parts ys) (n m : Nat) (hnm : n < m) (heq : ∀ i, n < i → i < m → rd xs i = rd ys i) (h : rd ys n < rd xs n) : valN ys m < valN xs m := by
  induction m with
  | zero => omega
  | succ m ih =>
    rcases Nat.lt_or_ge n m with hl | hl
    · rw [valN, valN, heq m hl (by omega)]
      have := ih hl (fun i h1 h2 => heq i h1 (by omega))
      omega
    · obtain rfl : n = m := by omega
      rw [valN, valN]
      have h1 := valN_range hx n
      have h2 := valN_range hy n
      have h3 : (rd ys n + 1) * PB ^ n ≤ rd xs n * PB ^ n := Int.mul_le_mul_of_nonneg_right (by omega) (Int.le_of_lt (PB_pos n))
      rw [Int.add_mul] at h3
      omega
/-- The product, while it is made: the parts of the first number below i are taken. -/
structure MulOut (a b : List Int) (i : Nat) (out : List Int) : Prop where
  len : out.length = a.length + b.length
  parts : Parts out
  zero : ∀ j, i + b.length ≤ j → rd out j = 0
  val : valN out out.length = valN a i * valN b b.length
/-- .. and of part i the second number's parts below k. -/
structure MulIn (a b : List Int) (i k : Nat) (carry : Int) (out : List Int) : Prop where
  len : out.length = a.length + b.length
  parts : Parts out
  zero : ∀ j, i + b.length ≤ j → rd out j = 0
  low : 0 ≤ carry ∧ carry ≤ 65535
  val : valN out out.length + carry * PB ^ (i + k) = valN a i * valN b b.length + rd a i * valN b k * PB ^ i
theorem MulOut.start (a b : List Int) : MulOut a b 0 (List.replicate (a.length + b.length) 0) := by
  have hz : ∀ j, rd (List.replicate (a.length + b.length) 0) j = 0 := by
    intro j
    rcases Nat.lt_or_ge j (a.length + b.length) with h | h
    · unfold Go.Proofs.YtjlkakggmfmfiaaDoor.rd; simp [List.getD_eq_getElem?_getD, h]
    · exact rd_beyond _ _ (by simpa using h)
  refine ⟨by simp, fun x hx => by obtain rfl := List.eq_of_mem_replicate hx; omega, fun j _ => hz j, ?_⟩
  rw [valN_zero _ _ (fun i _ => hz i)]
  simp [valN]
theorem MulOut.in_ {a b out : List Int} {i : Nat} (h : MulOut a b i out) : MulIn a b i 0 0 out :=
  ⟨h.len, h.parts, h.zero, by omega, by rw [h.val]; simp [valN]⟩
theorem mul_bound (x y : Int) (hx : 0 ≤ x ∧ x ≤ 65535) (hy : 0 ≤ y ∧ y ≤ 65535) : 0 ≤ x * y ∧ x * y ≤ 4294836225 := by
  refine ⟨Int.mul_nonneg hx.1 hy.1, ?_⟩
  have h1 := Int.mul_le_mul_of_nonneg_right (a := x) (b := 65535) hx.2 hy.1
  omega
theorem MulIn.step {a b out : List Int} {i k : Nat} {carry : Int} (h : MulIn a b i k carry out) (ha : Parts a) (hb : Parts b) (hi : i < a.length) (hk : k < b.length) :
    MulIn a b i (k + 1) ((rd out (i + k) + rd a i * rd b k + carry) / 65536) (out.set (i + k) ((rd out (i + k) + rd a i * rd b k + carry) % 65536)) := by
  have h1 := h.parts.rd (i + k)
  have h2 := mul_bound _ _ (ha.rd i) (hb.rd k)
  have h3 := h.low
  refine ⟨by rw [List.length_set]; exact h.len, h.parts.set _ _ (by omega), fun j hj => ?_, by omega, ?_⟩
  · rw [rd_set_ne _ _ _ _ (by omega)]; exact h.zero j hj
  · have hl : i + k < out.length := by rw [h.len]; omega
    rw [List.length_set, valN_set _ _ _ hl, if_pos hl]
    have hv := h.val
    have hd := Int.emod_add_mul_ediv (rd out (i + k) + rd a i * rd b k + carry) 65536
    have e1 : PB ^ (i + (k + 1)) = PB ^ (i + k) * 65536 := by rw [← Nat.add_assoc]; exact PB_succ _
    have e2 : PB ^ (i + k) = PB ^ k * PB ^ i := by rw [Nat.add_comm]; exact PB_add _ _
    rw [e1]
    simp only [valN]
    generalize (rd out (i + k) + rd a i * rd b k + carry) / 65536 = q at *
    generalize (rd out (i + k) + rd a i * rd b k + carry) % 65536 = r at *
    grind
theorem MulIn.out {a b out : List Int} {i : Nat} {carry : Int} (h : MulIn a b i b.length carry out) (hi : i < a.length) : MulOut a b (i + 1) (out.set (i + b.length) (rd out (i + b.length) + carry)) := by
  have hz := h.zero (i + b.length) (Nat.le_refl _)
  have h3 := h.low
  have hl : i + b.length < out.length := by rw [h.len]; omega
  rw [hz]
  refine ⟨by rw [List.length_set]; exact h.len, h.parts.set _ _ (by omega), fun j hj => ?_, ?_⟩
  · rw [rd_set_ne _ _ _ _ (by omega)]; exact h.zero j (by omega)
  · rw [List.length_set, valN_set _ _ _ hl, if_pos hl, hz]
    have hv := h.val
    simp only [valN]
    grind
theorem parts_val (m : Int) (h0 : 0 ≤ m) (h1 : m < 281474976710656) : Parts [m % 65536, m / 65536 % 65536, m / 4294967296] ∧ valN [m % 65536, m / 65536 % 65536, m / 4294967296] 3 = m := by
  refine ⟨?_, ?_⟩
  · intro x hx
    simp only [List.mem_cons, List.not_mem_nil, or_false] at hx
    rcases hx with rfl | rfl | rfl <;> omega
  · show 0 + m % 65536 * PB ^ 0 + m / 65536 % 65536 * PB ^ 1 + m / 4294967296 * PB ^ 2 = m
    rw [show PB ^ 0 = 1 from rfl, show PB ^ 1 = 65536 from rfl, show PB ^ 2 = 4294967296 from rfl]
    omega
theorem over_eq {a b : List Int} (ha : Parts a) (hb : Parts b) (i m : Nat) (him : i < m) (heq : ∀ j, i + 1 ≤ j → j < m → rd a j = rd b j) (hne : rd a i ≠ rd b i) : decide (rd b i < rd a i) = decide (valN b m < valN a m) := by
  rcases Int.lt_or_gt_of_ne hne with h | h
  · have := valN_gt hb ha i m him (fun j h1 h2 => (heq j h1 h2).symm) h
    rw [decide_eq_false (by omega), decide_eq_false (by omega)]
  · have := valN_gt ha hb i m him heq h
    rw [decide_eq_true h, decide_eq_true this]
end Go.Proofs.YtjlkakggmfmfiaaDoor
