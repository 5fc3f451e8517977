/- The reference reads a digest byte by byte: in plain terms. -/
import Derived.Test.YtjlkakggmfmfiaaRefTx2
import Derived.Test.YtjlkakggmfmfiaaDecWit
import Derived.Test.YtjlkakggmfmfiaaSame07
set_option maxRecDepth 100000
set_option linter.unusedVariables false
namespace Go.Proofs.Ytjlkakggmfmfiaa
open Go Go.RowKit
/-- The state behind so many single bytes. -/
def tk1 : Nat → PSt → PSt
  | 0, s => s
  | k + 1, s => (tk1 k s).take 1
def idsF1 (k : Nat) (s : PSt) : List Int := (List.range k).map fun j => ofLE ((tk1 j s).takeB 1)
theorem idsF1_length (k : Nat) (s : PSt) : (idsF1 k s).length = k := by simp [idsF1]
theorem idsF1_succ (k : Nat) (s : PSt) : idsF1 (k + 1) s = idsF1 k s ++ [ofLE ((tk1 k s).takeB 1)] := by simp [idsF1, List.range_succ]
theorem tk1_bytes {s : PSt} (h : Bytes s.bs) : ∀ k, Bytes (tk1 k s).bs
  | 0 => h
  | k + 1 => PSt.take_bytes (tk1_bytes h k) 1
theorem one_byte {p : PSt} (h : Bytes p.bs) : 0 ≤ ofLE (p.takeB 1) ∧ ofLE (p.takeB 1) ≤ 255 := by
  unfold PSt.takeB
  split
  · rename_i hh
    cases hq : p.bs with
    | nil => simp [ofLE]
    | cons x r =>
      have := h x (by rw [hq]; simp)
      simp only [List.take_succ_cons, List.take_zero, ofLE]
      omega
  · simp [ofLE]
theorem idsF1_bytes {s : PSt} (h : Bytes s.bs) (k : Nat) : Bytes (idsF1 k s) := by
  intro x hx
  obtain ⟨j, _, rfl⟩ := List.mem_map.1 hx
  exact one_byte (tk1_bytes h j)
theorem tk1_take (s : PSt) : ∀ k, (tk1 k s).e = (s.take k).e ∧ ((s.take k).e = 0 → tk1 k s = s.take k ∧ idsF1 k s = s.takeB k)
  | 0 => by
    by_cases he : s.e = 0
    · have e1 : s.take 0 = ⟨s.bs, 0⟩ := by unfold PSt.take; rw [if_pos he, if_pos (Nat.zero_le _)]; rfl
      have e2 : s = ⟨s.bs, 0⟩ := by
        obtain ⟨b, e⟩ := s
        simp only at he
        rw [he]
      refine ⟨by rw [e1]; exact he, fun _ => ⟨by rw [e1]; exact e2, ?_⟩⟩
      unfold PSt.takeB
      rw [if_pos ⟨he, Nat.zero_le _⟩]
      rfl
    · rw [PSt.take_bad he]
      exact ⟨rfl, fun h => absurd h he⟩
  | k + 1 => by
    obtain ⟨i1, i2⟩ := tk1_take s k
    by_cases he : (s.take k).e = 0
    · obtain ⟨i3, i4⟩ := i2 he
      obtain ⟨q1, q2, q3⟩ := PSt.take_e he
      have hst : tk1 (k + 1) s = (s.take k).take 1 := by rw [tk1, i3]
      by_cases hl : k + 1 ≤ s.bs.length
      · have e1 : (s.take k).take 1 = ⟨s.bs.drop (k + 1), 0⟩ := by
          rw [q3]
          unfold PSt.take
          rw [if_pos rfl, if_pos (by simp; omega)]
          simp [List.drop_drop]
        have e2 : s.take (k + 1) = ⟨s.bs.drop (k + 1), 0⟩ := by unfold PSt.take; rw [if_pos q1, if_pos hl]
        have e3 : (s.take k).takeB 1 = [rd s.bs k] := by
          rw [q3]
          unfold PSt.takeB
          rw [if_pos ⟨rfl, by simp; omega⟩]
          show (s.bs.drop k).take 1 = _
          rw [List.drop_eq_getElem_cons (by omega), List.take_succ_cons, List.take_zero]
          simp [rd, List.getD_eq_getElem?_getD, List.getElem?_eq_getElem (show k < s.bs.length by omega)]
        refine ⟨by rw [hst, e1, e2], fun _ => ⟨by rw [hst, e1, e2], ?_⟩⟩
        rw [idsF1_succ, i4, i3, e3]
        unfold PSt.takeB
        rw [if_pos ⟨q1, q2⟩, if_pos ⟨q1, hl⟩, List.take_add_one, List.getElem?_eq_getElem (by omega)]
        simp [ofLE, rd, List.getD_eq_getElem?_getD, List.getElem?_eq_getElem (show k < s.bs.length by omega)]
      · have e1 : ((s.take k).take 1).e = 8 := by
          rw [q3]
          unfold PSt.take
          rw [if_pos rfl, if_neg (by simp; omega)]
        have e2 : (s.take (k + 1)).e = 8 := by unfold PSt.take; rw [if_pos q1, if_neg hl]
        exact ⟨by rw [hst, e1, e2], fun h => by rw [e2] at h; cases h⟩
    · have hne : (tk1 k s).e ≠ 0 := by rw [i1]; exact he
      have h1 : tk1 (k + 1) s = tk1 k s := by rw [tk1]; exact PSt.take_bad hne 1
      have h2 : (s.take (k + 1)).e = (s.take k).e := by
        by_cases hz : s.e = 0
        · unfold PSt.take at he ⊢
          rw [if_pos hz] at he ⊢
          split at he
          · exact absurd rfl he
          · rename_i hh
            rw [if_neg (by omega), if_pos hz, if_neg hh]
        · rw [PSt.take_bad hz, PSt.take_bad hz]
      exact ⟨by rw [h1, i1, h2], fun h => absurd (h2 ▸ h) he⟩
/-- What the reference reads as an input. -/
def rInP (s : PSt) : TIn × PSt :=
  (⟨idsF1 32 s, ofLE ((tk1 32 s).takeB 4), strOfNums ((tk1 32 s).take 4).textB, ofLE (((tk1 32 s).take 4).text.takeB 4), []⟩, ((tk1 32 s).take 4).text.take 4)
theorem rInP_ok {s : PSt} (h : Bytes s.bs) : (rInP s).1.Ok := by
  have h0 := tk1_bytes h 32
  have h1 := le4_takeB h0
  have h2 := le4_takeB (PSt.text_bytes (PSt.take_bytes h0 4))
  exact ⟨idsF1_length 32 s, idsF1_bytes h 32, h1.1, h1.2, h2.1, h2.2, text_max _, (fun s hs => by cases hs)⟩
theorem rInP_bytes {s : PSt} (h : Bytes s.bs) : Bytes (rInP s).2.bs := PSt.take_bytes (PSt.text_bytes (PSt.take_bytes (tk1_bytes h 32) 4)) 4
theorem take_keep {a b : PSt} (h : a = b ∨ (a.e ≠ 0 ∧ a.e = b.e)) (k : Nat) : a.take k = b.take k ∨ ((a.take k).e ≠ 0 ∧ (a.take k).e = (b.take k).e) := by
  rcases h with h | ⟨h1, h2⟩
  · exact .inl (by rw [h])
  · exact .inr ⟨by rw [PSt.take_bad h1]; exact h1, by rw [PSt.take_bad h1, PSt.take_bad (h2 ▸ h1)]; exact h2⟩
theorem text_keep {a b : PSt} (h : a = b ∨ (a.e ≠ 0 ∧ a.e = b.e)) : a.text = b.text ∨ (a.text.e ≠ 0 ∧ a.text.e = b.text.e) := by
  rcases h with h | ⟨h1, h2⟩
  · exact .inl (by rw [h])
  · exact .inr ⟨by rw [PSt.text_bad h1]; exact h1, by rw [PSt.text_bad h1, PSt.text_bad (h2 ▸ h1)]; exact h2⟩
theorem rInP_same (s : PSt) : (rInP s).2.e = (inP1 s).2.e ∧ ((inP1 s).2.e = 0 → rInP s = inP1 s) := by
  obtain ⟨t1, t2⟩ := tk1_take s 32
  have h0 : tk1 32 s = s.take 32 ∨ ((tk1 32 s).e ≠ 0 ∧ (tk1 32 s).e = (s.take 32).e) := by
    by_cases hz : (s.take 32).e = 0
    · exact .inl (t2 hz).1
    · exact .inr ⟨by rw [t1]; exact hz, t1⟩
  have h1 := take_keep (text_keep (take_keep h0 4)) 4
  have hi : (inP1 s).2 = (((s.take 32).take 4).text).take 4 := rfl
  refine ⟨?_, fun he => ?_⟩
  · show (((tk1 32 s).take 4).text.take 4).e = _
    rw [hi]
    rcases h1 with h1 | h1
    · rw [h1]
    · exact h1.2
  · obtain ⟨_, _, q3, _⟩ := inP1_e s he
    obtain ⟨r1, r2⟩ := t2 q3
    have hl : (s.takeB 32).length = 32 := by rw [← r2]; exact idsF1_length 32 s
    unfold rInP inP1
    rw [r1, r2, zpad_full _ hl]
end Go.Proofs.Ytjlkakggmfmfiaa
