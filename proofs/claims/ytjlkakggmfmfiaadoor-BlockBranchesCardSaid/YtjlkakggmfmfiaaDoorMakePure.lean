/- The tables' numbers: which numbers are prime, how many lie below, the roots' first bits. -/
import Derived.Test.YtjlkakggmfmfiaaDoorRoot
import Derived.Test.YtjlkakggmfmfiaaDoorRefPure
import Derived.KernelRfl
set_option maxRecDepth 100000
namespace Go.Proofs.YtjlkakggmfmfiaaDoor
open Go Go.RowKit
/-- No number from 2 to below d divides x. -/
def prB (x : Nat) : Nat → Bool
  | 0 => true
  | d + 1 => prB x d && (Nat.ble d 1 || !(Nat.beq (x % d) 0))
def primes : List Nat := [2, 3, 5, 7, 11, 13, 17, 19, 23, 29, 31, 37, 41, 43, 47, 53, 59, 61, 67, 71, 73, 79, 83, 89, 97, 101, 103, 107, 109, 113, 127, 131, 137, 139, 149, 151, 157, 163, 167, 173, 179, 181, 191, 193, 197, 199, 211, 223, 227, 229, 233, 239, 241, 251, 257, 263, 269, 271, 277, 281, 283, 293, 307, 311]
def cntL : List Nat → Nat → Nat
  | [], _ => 0
  | p :: r, x => (if Nat.blt p x then 1 else 0) + cntL r x
def cnt (x : Nat) : Nat := cntL primes x
def isP (x : Nat) : Bool := prB x x
/-- The whole part of a cube's, a square's root. -/
def ip3 (p : Nat) : Nat := if Nat.blt p 8 then 1 else if Nat.blt p 27 then 2 else if Nat.blt p 64 then 3 else if Nat.blt p 125 then 4 else if Nat.blt p 216 then 5 else 6
def ip2 (p : Nat) : Nat := if Nat.blt p 4 then 1 else if Nat.blt p 9 then 2 else if Nat.blt p 16 then 3 else 4
def rt3 (p j : Nat) : Nat := ip3 p * 4294967296 + (rd adds j).toNat
def rt2 (p j : Nat) : Nat := ip2 p * 4294967296 + (rd first8.list j).toNat
def chk3 (p m : Nat) : Bool := Nat.ble (m * m * m) (p * 79228162514264337593543950336) && Nat.blt (p * 79228162514264337593543950336) ((m + 1) * (m + 1) * (m + 1))
def chk2 (p m : Nat) : Bool := Nat.ble (m * m) (p * 18446744073709551616) && Nat.blt (p * 18446744073709551616) ((m + 1) * (m + 1))
/-- All that is asked of x. -/
def chk (x : Nat) : Bool :=
  Nat.beq (cnt (x + 1)) (cnt x + if isP x then 1 else 0) && (!(isP x) || (Nat.blt (cnt x) 64 && chk3 x (rt3 x (cnt x)) && (Nat.ble 8 (cnt x) || chk2 x (rt2 x (cnt x)))))
def chkAll : Nat → Bool
  | 0 => true
  | n + 1 => chkAll n && (Nat.ble n 1 || chk n)
theorem chkAll_true : chkAll 312 = true := by kernel_rfl
theorem cnt_end : cnt 312 = 64 := by kernel_rfl
theorem cnt_two : cnt 2 = 0 := by kernel_rfl
theorem chkAll_get (n : Nat) (h : chkAll n = true) (x : Nat) (h1 : x < n) (h2 : 2 ≤ x) : chk x = true := by
  induction n with
  | zero => omega
  | succ n ih =>
    simp only [chkAll, Bool.and_eq_true, Bool.or_eq_true] at h
    rcases Nat.lt_or_ge x n with hl | hl
    · exact ih h.1 hl
    · obtain rfl : x = n := by omega
      rcases h.2 with h3 | h3
      · have := Nat.le_of_ble_eq_true h3; omega
      · exact h3
theorem chk_at (x : Nat) (h1 : x < 312) (h2 : 2 ≤ x) : chk x = true := chkAll_get 312 chkAll_true x h1 h2
theorem cntL_mono (l : List Nat) (x y : Nat) (h : x ≤ y) : cntL l x ≤ cntL l y := by
  induction l with
  | nil => exact Nat.le_refl _
  | cons p r ih =>
    simp only [cntL]
    by_cases h1 : Nat.blt p x = true
    · have hp : p < x := by rw [Nat.blt_eq] at h1; exact h1
      have h2 : Nat.blt p y = true := by rw [Nat.blt_eq]; omega
      rw [if_pos h1, if_pos h2]; omega
    · rw [if_neg h1]; split <;> omega
theorem cnt_lt (x : Nat) (h : cnt x < 64) : x < 312 := by
  rcases Nat.lt_or_ge x 312 with hl | hl
  · exact hl
  · have := cntL_mono primes 312 x hl
    have e := cnt_end
    unfold cnt at *
    omega
theorem prB_succ (x d : Nat) (h : 2 ≤ d) : prB x (d + 1) = (prB x d && !(x % d == 0)) := by
  have h1 : Nat.ble d 1 = false := by
    cases hb : Nat.ble d 1 with
    | false => rfl
    | true => have := Nat.le_of_ble_eq_true hb; omega
  have h2 : Nat.beq (x % d) 0 = (x % d == 0) := by
    cases hb : Nat.beq (x % d) 0 with
    | true => exact (beq_iff_eq.2 (Nat.eq_of_beq_eq_true hb)).symm
    | false => exact (beq_eq_false_iff_ne.2 (Nat.ne_of_beq_eq_false hb)).symm
  simp only [prB, h1, Bool.false_or, h2]
theorem prB_two (x : Nat) : prB x 2 = true := by
  simp [prB, Nat.ble]
/-- What holds at a number below 312. -/
theorem at_num (x : Nat) (h1 : x < 312) (h2 : 2 ≤ x) :
    cnt (x + 1) = cnt x + (if isP x then 1 else 0) ∧ (isP x = true → cnt x < 64 ∧ chk3 x (rt3 x (cnt x)) = true ∧ (cnt x < 8 → chk2 x (rt2 x (cnt x)) = true)) := by
  have h := chk_at x h1 h2
  simp only [chk, Bool.and_eq_true, Bool.or_eq_true, Bool.not_eq_true'] at h
  refine ⟨Nat.eq_of_beq_eq_true h.1, fun hp => ?_⟩
  rcases h.2 with h3 | h3
  · rw [hp] at h3; cases h3
  · obtain ⟨⟨h4, h5⟩, h6⟩ := h3
    refine ⟨by rw [Nat.blt_eq] at h4; exact h4, h5, fun hc => ?_⟩
    rcases h6 with h7 | h7
    · have := Nat.le_of_ble_eq_true h7; omega
    · exact h7
theorem pw_mono (k : Nat) (a b : Int) (h0 : 0 ≤ a) (h : a ≤ b) : pw k a ≤ pw k b := by
  have h1 : a * a ≤ b * b := Int.mul_le_mul h h h0 (by omega)
  unfold pw
  split
  · exact Int.mul_le_mul h1 h h0 (Int.mul_nonneg (by omega) (by omega))
  · exact h1
theorem root_unique (k : Nat) (p a b : Int) (ha : RootOk k p a) (hb : RootOk k p b) : a = b := by
  rcases Int.lt_trichotomy a b with h | h | h
  · have := pw_mono k (a + 1) b (by have := ha.1; omega) (by omega)
    have h1 := ha.2.2
    have h2 := hb.2.1
    omega
  · exact h
  · have := pw_mono k (b + 1) a (by have := hb.1; omega) (by omega)
    have h1 := hb.2.2
    have h2 := ha.2.1
    omega
theorem rt_range (l : List Int) (j ip : Nat) (hl : ∀ x ∈ l, 0 ≤ x ∧ x < 4294967296) (hj : j < l.length) : ((ip * 4294967296 + (rd l j).toNat : Nat) : Int) % 4294967296 = rd l j := by
  have := hl _ (rd_mem l j hj)
  omega
theorem adds_range : ∀ x ∈ adds, 0 ≤ x ∧ x < 4294967296 := by decide
theorem first_range : ∀ x ∈ first8.list, 0 ≤ x ∧ x < 4294967296 := by decide
theorem root3_at (x : Nat) (lo : Int) (h1 : x < 312) (h2 : 2 ≤ x) (hp : isP x = true) (h : RootOk 3 x lo) : lo % 4294967296 = rd adds (cnt x) := by
  obtain ⟨_, h3⟩ := at_num x h1 h2
  obtain ⟨hc, hk, _⟩ := h3 hp
  simp only [chk3, Bool.and_eq_true, Nat.blt_eq] at hk
  have hk1 := Nat.le_of_ble_eq_true hk.1
  have hr : RootOk 3 x (rt3 x (cnt x) : Nat) := by
    refine ⟨by omega, ?_, ?_⟩
    · rw [pw3, show PB ^ (2 * 3) = 79228162514264337593543950336 from rfl]
      have := hk1
      generalize rt3 x (cnt x) = m at *
      have e : ((m * m * m : Nat) : Int) ≤ ((x * 79228162514264337593543950336 : Nat) : Int) := Int.ofNat_le.2 this
      simpa using e
    · rw [pw3, show PB ^ (2 * 3) = 79228162514264337593543950336 from rfl]
      have := hk.2
      generalize rt3 x (cnt x) = m at *
      have e : ((x * 79228162514264337593543950336 : Nat) : Int) < (((m + 1) * (m + 1) * (m + 1) : Nat) : Int) := Int.ofNat_lt.2 this
      simpa using e
  rw [root_unique 3 x lo _ h hr]
  exact rt_range adds (cnt x) (ip3 x) adds_range hc
theorem root2_at (x : Nat) (lo : Int) (h1 : x < 312) (h2 : 2 ≤ x) (hp : isP x = true) (hc8 : cnt x < 8) (h : RootOk 2 x lo) : lo % 4294967296 = rd first8.list (cnt x) := by
  obtain ⟨_, h3⟩ := at_num x h1 h2
  obtain ⟨hc, _, hk⟩ := h3 hp
  have hk := hk hc8
  simp only [chk2, Bool.and_eq_true, Nat.blt_eq] at hk
  have hk1 := Nat.le_of_ble_eq_true hk.1
  have hr : RootOk 2 x (rt2 x (cnt x) : Nat) := by
    refine ⟨by omega, ?_, ?_⟩
    · rw [pw2, show PB ^ (2 * 2) = 18446744073709551616 from rfl]
      have := hk1
      generalize rt2 x (cnt x) = m at *
      have e : ((m * m : Nat) : Int) ≤ ((x * 18446744073709551616 : Nat) : Int) := Int.ofNat_le.2 this
      simpa using e
    · rw [pw2, show PB ^ (2 * 2) = 18446744073709551616 from rfl]
      have := hk.2
      generalize rt2 x (cnt x) = m at *
      have e : ((x * 18446744073709551616 : Nat) : Int) < (((m + 1) * (m + 1) : Nat) : Int) := Int.ofNat_lt.2 this
      simpa using e
  rw [root_unique 2 x lo _ h hr]
  exact rt_range first8.list (cnt x) (ip2 x) first_range hc8
/-- The tables, while they are filled: n numbers so far. -/
def TabL (n : Nat) (L : List Int) : Prop := L.length = 72 ∧ (∀ j, j < n → rd L (8 + j) = rd adds j) ∧ (∀ j, j < n → j < 8 → rd L j = rd first8.list j)
theorem TabL.zero : TabL 0 (List.replicate 72 0) := ⟨by simp, fun j hj => by omega, fun j hj => by omega⟩
theorem TabL.stepK {n : Nat} {L : List Int} (h : TabL n L) (hn : n < 64) : (L.set (8 + n) (rd adds n)).length = 72 ∧ (∀ j, j < n + 1 → rd (L.set (8 + n) (rd adds n)) (8 + j) = rd adds j) ∧ (∀ j, j < n → j < 8 → rd (L.set (8 + n) (rd adds n)) j = rd first8.list j) := by
  refine ⟨by rw [List.length_set]; exact h.1, fun j hj => ?_, fun j hj hj8 => ?_⟩
  · rcases Nat.lt_or_ge j n with hl | hl
    · rw [rd_set_ne _ _ _ _ (by omega)]; exact h.2.1 j hl
    · obtain rfl : j = n := by omega
      exact rd_set_same _ _ _ (by rw [h.1]; omega)
  · rw [rd_set_ne _ _ _ _ (by omega)]; exact h.2.2 j hj hj8
theorem TabL.step8 {n : Nat} {L : List Int} (h : TabL n L) (hn : 8 ≤ n) (hn2 : n < 64) : TabL (n + 1) (L.set (8 + n) (rd adds n)) :=
  ⟨(h.stepK hn2).1, (h.stepK hn2).2.1, fun j hj hj8 => (h.stepK hn2).2.2 j (by omega) hj8⟩
theorem TabL.stepS {n : Nat} {L : List Int} (h : TabL n L) (hn : n < 8) : TabL (n + 1) ((L.set (8 + n) (rd adds n)).set n (rd first8.list n)) := by
  have hk := h.stepK (by omega)
  refine ⟨by rw [List.length_set]; exact hk.1, fun j hj => ?_, fun j hj hj8 => ?_⟩
  · rw [rd_set_ne _ _ _ _ (by omega)]; exact hk.2.1 j hj
  · rcases Nat.lt_or_ge j n with hl | hl
    · rw [rd_set_ne _ _ _ _ (by omega)]; exact hk.2.2 j hl hj8
    · obtain rfl : j = n := by omega
      exact rd_set_same _ _ _ (by rw [hk.1]; omega)
theorem TabL.done {L : List Int} (h : TabL 64 L) : L = tabs72 := by
  have hlt : tabs72.length = 72 := rfl
  refine rd_ext _ _ (by rw [h.1, hlt]) fun i hi => ?_
  rw [h.1] at hi
  rcases Nat.lt_or_ge i 8 with hl | hl
  · rw [h.2.2 i (by omega) hl]
    exact (rd_append_left _ _ _ hl).symm
  · have := h.2.1 (i - 8) (by omega)
    rw [show 8 + (i - 8) = i by omega] at this
    rw [this]
    exact (rd_append_right first8.list adds i hl).symm
end Go.Proofs.YtjlkakggmfmfiaaDoor
