/- The plain law of digests' texts: what is shown is read back; what is read is shown so. -/
import Derived.Test.YtjlkakggmfmfiaaText
namespace Go.Proofs.Ytjlkakggmfmfiaa
open Go Go.RowKit
theorem sg_range (x : Int) (h0 : 0 ≤ x) (h1 : x < 16) : 0 ≤ sg x ∧ sg x ≤ 255 := by unfold sg; split <;> omega
theorem digitF_sg (x : Int) (h0 : 0 ≤ x) (h1 : x < 16) : digitF (sg x) = x := by
  unfold sg digitF
  split
  · rw [if_pos (by omega)]; omega
  · rw [if_neg (by omega), if_pos (by omega)]; omega
theorem sg_digitF (c : Int) (h : 0 ≤ digitF c) : sg (digitF c) = c := by
  revert h
  unfold digitF
  split
  · intro _; unfold sg; rw [if_pos (by omega)]; omega
  · split
    · intro _; unfold sg; rw [if_neg (by omega)]; omega
    · intro h; omega
theorem digitF_ok (c : Int) : 0 ≤ digitF c ↔ ((48 ≤ c ∧ c ≤ 57) ∨ (97 ≤ c ∧ c ≤ 102)) := by
  unfold digitF
  split
  · constructor
    · intro _; left; assumption
    · intro _; omega
  · split
    · constructor
      · intro _; right; assumption
      · intro _; omega
    · constructor
      · intro h; omega
      · intro h; omega
theorem textN_bytes (h : List Int) (hb : Bytes h) (k : Nat) : Bytes (textN h k) := by
  induction k with
  | zero => exact Bytes.nil
  | succ k ih =>
    refine ih.append ?_
    have hr := hb.rd (31 - k)
    intro x hx
    simp only [List.mem_cons, List.not_mem_nil, or_false] at hx
    rcases hx with rfl | rfl
    · exact sg_range _ (by omega) (by omega)
    · exact sg_range _ (by omega) (by omega)
theorem textN_at (h : List Int) (k : Nat) : ∀ i, i < k → rd (textN h k) (2 * i) = sg (rd h (31 - i) / 16) ∧ rd (textN h k) (2 * i + 1) = sg (rd h (31 - i) % 16) := by
  induction k with
  | zero => intro i hi; omega
  | succ k ih =>
    intro i hi
    have hl := textN_length h k
    rcases Nat.lt_or_ge i k with hlt | hge
    · obtain ⟨h1, h2⟩ := ih i hlt
      simp only [textN]
      rw [rd_append_left _ _ _ (by omega), rd_append_left _ _ _ (by omega)]
      exact ⟨h1, h2⟩
    · obtain rfl : i = k := by omega
      simp only [textN]
      rw [rd_append_right _ _ _ (by omega), rd_append_right _ _ _ (by omega), hl]
      have e0 : 2 * i - 2 * i = 0 := by omega
      have e1 : 2 * i + 1 - 2 * i = 1 := by omega
      rw [e0, e1]
      exact ⟨rfl, rfl⟩
theorem bt_strOf (xs : List Int) (h : Bytes xs) (i : Nat) : bt (strOfNums xs) i = rd xs i := by
  rw [bt_eq, bytesOf_strOf xs h]
theorem parseN_at (s : ByteArray) (h : List Int) (K : Nat) (hh : ∀ i, i < K → 16 * digitF (bt s (2 * i)) + digitF (bt s (2 * i + 1)) = rd h (31 - i)) (k : Nat) (hK : k ≤ K) (hk : k ≤ 32) :
    ∀ j, j < 32 → rd (parseN s k) j = if 32 - k ≤ j then rd h j else 0 := by
  induction k with
  | zero =>
    intro j hj
    rw [if_neg (by omega)]
    show (List.replicate 32 (0 : Int)).getD j 0 = 0
    rw [List.getD_eq_getElem?_getD, List.getElem?_replicate, if_pos hj]
    rfl
  | succ k ih =>
    intro j hj
    have ih := ih (by omega) (by omega) j hj
    simp only [parseN]
    by_cases e : 31 - k = j
    · subst e
      rw [rd_set_same _ _ _ (by rw [parseN_length]; omega), if_pos (by omega), hh k (by omega)]
    · rw [rd_set_ne _ _ _ _ e, ih]
      by_cases c : 32 - k ≤ j
      · rw [if_pos c, if_pos (by omega)]
      · rw [if_neg c, if_neg (by omega)]
theorem textN_good (h : List Int) (hb : Bytes h) : goodN (strOfNums (textN h 32)) 32 ∧ ∀ i, i < 32 → 16 * digitF (bt (strOfNums (textN h 32)) (2 * i)) + digitF (bt (strOfNums (textN h 32)) (2 * i + 1)) = rd h (31 - i) := by
  have key : ∀ i, i < 32 → digitF (bt (strOfNums (textN h 32)) (2 * i)) = rd h (31 - i) / 16 ∧ digitF (bt (strOfNums (textN h 32)) (2 * i + 1)) = rd h (31 - i) % 16 := by
    intro i hi
    have hr := hb.rd (31 - i)
    obtain ⟨h1, h2⟩ := textN_at h 32 i hi
    rw [bt_strOf _ (textN_bytes h hb 32), bt_strOf _ (textN_bytes h hb 32), h1, h2, digitF_sg _ (by omega) (by omega), digitF_sg _ (by omega) (by omega)]
    exact ⟨rfl, rfl⟩
  refine ⟨fun i hi => ?_, fun i hi => ?_⟩
  · obtain ⟨h1, h2⟩ := key i hi
    have hr := hb.rd (31 - i)
    rw [h1, h2]; omega
  · obtain ⟨h1, h2⟩ := key i hi
    rw [h1, h2]; omega
/-- What is shown is read back. -/
theorem parse_text (h : List Int) (hl : h.length = 32) (hb : Bytes h) (e : Ending) (hp : ParseEnds (strOfNums (textN h 32)) e) : e = .returned (.tuple #[.agg (nums .u8 h).toArray, .int .i64 0]) := by
  obtain ⟨hg, hh⟩ := textN_good h hb
  have hsz : (strOfNums (textN h 32)).size = 64 := by rw [strOfNums_size, textN_length]
  rcases hp with ⟨_, _, rfl⟩ | ⟨hn, _⟩
  · have e : parseN (strOfNums (textN h 32)) 32 = h := by
      apply rd_ext
      · rw [parseN_length, hl]
      · intro i hi
        rw [parseN_length] at hi
        rw [parseN_at _ h 32 hh 32 (Nat.le_refl _) (Nat.le_refl _) i hi, if_pos (by omega)]
    rw [e]
  · exact absurd ⟨hsz, hg⟩ hn
/-- What is read is a digest. -/
theorem parseN_bytes (s : ByteArray) (hg : goodN s 32) : Bytes (parseN s 32) := by
  have key : ∀ k, k ≤ 32 → Bytes (parseN s k) := by
    intro k
    induction k with
    | zero =>
      intro _ x hx
      obtain rfl := List.eq_of_mem_replicate hx
      omega
    | succ k ih =>
      intro hk x hx
      obtain ⟨g1, g2⟩ := hg k (by omega)
      have r1 := digitF_range (bt s (2 * k))
      have r2 := digitF_range (bt s (2 * k + 1))
      rcases List.mem_or_eq_of_mem_set hx with hx | rfl
      · exact ih (by omega) x hx
      · omega
  exact key 32 (Nat.le_refl _)
/-- What is read is shown so. -/
theorem text_parse (s : ByteArray) (hs : s.size = 64) (hg : goodN s 32) : strOfNums (textN (parseN s 32) 32) = s := by
  have hh : ∀ i, i < 32 → rd (parseN s 32) (31 - i) = 16 * digitF (bt s (2 * i)) + digitF (bt s (2 * i + 1)) := by
    have key : ∀ k, k ≤ 32 → ∀ i, i < k → rd (parseN s k) (31 - i) = 16 * digitF (bt s (2 * i)) + digitF (bt s (2 * i + 1)) := by
      intro k
      induction k with
      | zero => intro _ i hi; omega
      | succ k ih =>
        intro hk i hi
        simp only [parseN]
        by_cases e : i = k
        · subst e
          rw [rd_set_same _ _ _ (by rw [parseN_length]; omega)]
        · rw [rd_set_ne _ _ _ _ (by omega)]
          exact ih (by omega) i (by omega)
    exact key 32 (Nat.le_refl _)
  suffices h : textN (parseN s 32) 32 = bytesOf s by rw [h, strOf_bytesOf]
  apply rd_ext
  · rw [textN_length, bytesOf_length, hs]
  · intro j hj
    rw [textN_length] at hj
    have hi : j / 2 < 32 := by omega
    obtain ⟨t1, t2⟩ := textN_at (parseN s 32) 32 (j / 2) hi
    obtain ⟨g1, g2⟩ := hg (j / 2) hi
    have r1 := digitF_range (bt s (2 * (j / 2)))
    have r2 := digitF_range (bt s (2 * (j / 2) + 1))
    rw [hh (j / 2) hi] at t1 t2
    rcases Nat.mod_two_eq_zero_or_one j with e | e
    · have hj2 : j = 2 * (j / 2) := by omega
      rw [show (16 * digitF (bt s (2 * (j / 2))) + digitF (bt s (2 * (j / 2) + 1))) / 16 = digitF (bt s (2 * (j / 2))) by omega, sg_digitF _ g1, bt_eq, ← hj2] at t1
      exact t1
    · have hj2 : j = 2 * (j / 2) + 1 := by omega
      rw [show (16 * digitF (bt s (2 * (j / 2))) + digitF (bt s (2 * (j / 2) + 1))) % 16 = digitF (bt s (2 * (j / 2) + 1)) by omega, sg_digitF _ g2, bt_eq, ← hj2] at t2
      exact t2
/-- Every sign is a digit. -/
def allDigits (s : ByteArray) (k : Nat) : Prop := ∀ i, i < k → 0 ≤ digitF (bt s i)
theorem good_iff (s : ByteArray) : goodN s 32 ↔ allDigits s 64 := by
  constructor
  · intro h i hi
    obtain ⟨h1, h2⟩ := h (i / 2) (by omega)
    rcases Nat.mod_two_eq_zero_or_one i with e | e
    · rwa [show 2 * (i / 2) = i by omega] at h1
    · rwa [show 2 * (i / 2) + 1 = i by omega] at h2
  · intro h i hi
    exact ⟨h _ (by omega), h _ (by omega)⟩
end Go.Proofs.Ytjlkakggmfmfiaa
