/- Rows of digests in plain terms: the row above, the root, what stands beside a way, the climb. -/
import Derived.Test.YtclkgflficlmiaaDoorSha2
set_option linter.unusedVariables false
namespace Go.Proofs.YtclkgflficlmiaaDoor
open Go Go.RowKit
/-- A digest: 32 bytes. -/
def Dig (x : List Int) : Prop := x.length = 32 ∧ Bytes x
def Digs (xs : List (List Int)) : Prop := ∀ x ∈ xs, Dig x
theorem dig_pair (a b : List Int) : Dig (pairF a b) := ⟨pairF_length _ _, pairF_bytes _ _⟩
def dg (ids : List (List Int)) (i : Nat) : List Int := ids.getD i []
theorem dg_get (ids : List (List Int)) (i : Nat) (h : i < ids.length) : ids[i]? = some (dg ids i) := by
  simp [dg, List.getD_eq_getElem?_getD, List.getElem?_eq_getElem h]
theorem dg_of {ids : List (List Int)} {i : Nat} {x : List Int} (h : ids[i]? = some x) : dg ids i = x := by
  simp [dg, List.getD_eq_getElem?_getD, h]
theorem dg_dig {ids : List (List Int)} (h : Digs ids) (i : Nat) (hi : i < ids.length) : Dig (dg ids i) := h _ (List.mem_of_getElem? (dg_get ids i hi))
theorem Digs.nil : Digs [] := fun x hx => by cases hx
theorem Digs.append {xs ys : List (List Int)} (h : Digs xs) (k : Digs ys) : Digs (xs ++ ys) := by
  intro x hx
  rcases List.mem_append.1 hx with hx | hx
  · exact h x hx
  · exact k x hx
theorem Digs.one {x : List Int} (h : Dig x) : Digs [x] := by
  intro y hy
  rw [List.mem_singleton.1 hy]
  exact h
def pairAt (ids : List (List Int)) (k : Nat) : List Int := pairF (dg ids (2 * k)) (dg ids (min (2 * k + 1) (ids.length - 1)))
/-- The row above. -/
def upF (ids : List (List Int)) : List (List Int) := (List.range ((ids.length + 1) / 2)).map (pairAt ids)
theorem upF_length (ids : List (List Int)) : (upF ids).length = (ids.length + 1) / 2 := by simp [upF]
theorem upF_digs (ids : List (List Int)) : Digs (upF ids) := by
  intro x hx
  simp only [upF, List.mem_map] at hx
  obtain ⟨k, _, rfl⟩ := hx
  exact dig_pair _ _
theorem upF_get (ids : List (List Int)) (k : Nat) (h : 2 * k < ids.length) : dg (upF ids) k = pairAt ids k := by
  have hk : k < (ids.length + 1) / 2 := by omega
  simp [dg, upF, List.getD_eq_getElem?_getD, List.getElem?_map, List.getElem?_range hk]
theorem upF_take_succ (ids : List (List Int)) (k : Nat) (h : 2 * k < ids.length) : (upF ids).take (k + 1) = (upF ids).take k ++ [pairAt ids k] := by
  have hk : k < (upF ids).length := by rw [upF_length]; omega
  rw [List.take_add_one, dg_get _ _ hk, upF_get ids k h]
  rfl
theorem upF_take_all (ids : List (List Int)) (k : Nat) (h : ids.length ≤ 2 * k) : (upF ids).take k = upF ids := List.take_of_length_le (by rw [upF_length]; omega)
/-- The root. -/
def rootF : List (List Int) → List Int
  | [] => zeros32
  | [a] => a
  | a :: b :: r => rootF (upF (a :: b :: r))
termination_by l => l.length
decreasing_by rw [upF_length]; simp only [List.length_cons]; omega
theorem rootF_nil : rootF [] = zeros32 := by rw [rootF]
theorem rootF_one (l : List (List Int)) (h : l.length = 1) : rootF l = dg l 0 := by
  match l, h with
  | [a], _ => rw [rootF]; rfl
theorem rootF_up (l : List (List Int)) (h : 1 < l.length) : rootF (upF l) = rootF l := by
  match l, h with
  | a :: b :: r, _ => rw [rootF.eq_3]
theorem zeros32_dig : Dig zeros32 := ⟨rfl, fun x hx => by
  have : x = 0 := by simpa [zeros32] using hx
  subst this
  exact ⟨by decide, by decide⟩⟩
theorem rootF_dig : ∀ (n : Nat) (l : List (List Int)), l.length ≤ n → Digs l → Dig (rootF l)
  | _, [], _, _ => by rw [rootF_nil]; exact zeros32_dig
  | _, [a], _, h => by rw [rootF]; exact h a (by simp)
  | 0, a :: b :: r, hn, _ => by simp at hn
  | n + 1, a :: b :: r, hn, h => by
    rw [← rootF_up _ (by simp)]
    exact rootF_dig n _ (by rw [upF_length]; simp only [List.length_cons] at hn ⊢; omega) (upF_digs _)
/-- The other of a pair. -/
def sib (i : Nat) : Nat := if i % 2 = 1 then i - 1 else i + 1
/-- What stands beside the way. -/
def branchF : List (List Int) → Nat → List (List Int)
  | [], _ => []
  | [_], _ => []
  | a :: b :: r, i => dg (a :: b :: r) (min (sib i) (r.length + 1)) :: branchF (upF (a :: b :: r)) (i / 2)
termination_by l => l.length
decreasing_by rw [upF_length]; simp only [List.length_cons]; omega
theorem branchF_end (l : List (List Int)) (i : Nat) (h : l.length ≤ 1) : branchF l i = [] := by
  match l, h with
  | [], _ => rw [branchF]
  | [_], _ => rw [branchF]
theorem branchF_up (l : List (List Int)) (i : Nat) (h : 1 < l.length) : branchF l i = dg l (min (sib i) (l.length - 1)) :: branchF (upF l) (i / 2) := by
  match l, h with
  | a :: b :: r, _ => rw [branchF.eq_3]; rfl
def climbF (id : List Int) (i : Int) : List (List Int) → List Int
  | [] => id
  | x :: r => climbF (if i % 2 = 1 then pairF x id else pairF id x) (i / 2) r
theorem climb_root : ∀ (n : Nat) (l : List (List Int)) (i : Nat), l.length ≤ n → i < l.length → climbF (dg l i) i (branchF l i) = rootF l
  | 0, l, i, hn, hi => by omega
  | n + 1, l, i, hn, hi => by
    rcases Nat.lt_or_ge 1 l.length with h1 | h1
    · rw [branchF_up l i h1, climbF, ← rootF_up l h1, ← climb_root n (upF l) (i / 2) (by rw [upF_length]; omega) (by rw [upF_length]; omega), upF_get l (i / 2) (by omega)]
      have h2 : ((i : Int) / 2) = ((i / 2 : Nat) : Int) := by omega
      rw [h2]
      congr 1
      unfold sib pairAt
      by_cases ho : i % 2 = 1
      · rw [if_pos (by omega), if_pos ho]
        congr 2 <;> omega
      · rw [if_neg (by omega), if_neg ho]
        congr 2 <;> omega
    · rw [branchF_end l i h1, climbF, rootF_one l (by omega)]
      congr 1
      omega
theorem branchF_digs : ∀ (n : Nat) (l : List (List Int)) (i : Nat), l.length ≤ n → Digs l → i < l.length → Digs (branchF l i)
  | 0, l, i, hn, _, hi => by omega
  | n + 1, l, i, hn, h, hi => by
    rcases Nat.lt_or_ge 1 l.length with h1 | h1
    · rw [branchF_up l i h1]
      intro x hx
      rcases List.mem_cons.1 hx with rfl | hx
      · exact dg_dig h _ (by omega)
      · exact branchF_digs n (upF l) (i / 2) (by rw [upF_length]; omega) (upF_digs l) (by rw [upF_length]; omega) x hx
    · rw [branchF_end l i h1]
      exact Digs.nil
/-- All rows. -/
def rowsF : List (List Int) → List (List (List Int))
  | [] => [[]]
  | [a] => [[a]]
  | a :: b :: r => (a :: b :: r) :: rowsF (upF (a :: b :: r))
termination_by l => l.length
decreasing_by rw [upF_length]; simp only [List.length_cons]; omega
theorem rowsF_end (l : List (List Int)) (h : l.length ≤ 1) : rowsF l = [l] := by
  match l, h with
  | [], _ => rw [rowsF]
  | [_], _ => rw [rowsF]
theorem rowsF_up (l : List (List Int)) (h : 1 < l.length) : rowsF l = l :: rowsF (upF l) := by
  match l, h with
  | a :: b :: r, _ => rw [rowsF.eq_3]
theorem rowsF_last : ∀ (n : Nat) (l : List (List Int)), l.length ≤ n → l ≠ [] → ∃ x, (rowsF l)[(rowsF l).length - 1]? = some [x] ∧ x = rootF l
  | 0, l, hn, hl => absurd (List.eq_nil_of_length_eq_zero (by omega)) hl
  | n + 1, l, hn, hl => by
    rcases Nat.lt_or_ge 1 l.length with h1 | h1
    · obtain ⟨x, h2, h3⟩ := rowsF_last n (upF l) (by rw [upF_length]; omega) (by intro h; have := upF_length l; rw [h] at this; simp at this; omega)
      refine ⟨x, ?_, by rw [h3, rootF_up l h1]⟩
      have hp : 0 < (rowsF (upF l)).length := by
        rcases Nat.eq_zero_or_pos (rowsF (upF l)).length with h0 | h0
        · rw [List.eq_nil_of_length_eq_zero h0] at h2
          simp at h2
        · exact h0
      rw [rowsF_up l h1, List.length_cons, Nat.add_sub_cancel]
      obtain ⟨m, hm⟩ : ∃ m, (rowsF (upF l)).length = m + 1 := ⟨_, (Nat.sub_add_cancel hp).symm⟩
      rw [hm, List.getElem?_cons_succ]
      rw [hm, Nat.add_sub_cancel] at h2
      exact h2
    · rw [rowsF_end l h1]
      match l, h1, hl with
      | [a], _, _ => exact ⟨a, rfl, by rw [rootF]⟩
theorem rowsF_length : ∀ (n : Nat) (l : List (List Int)), l.length ≤ n → (rowsF l).length ≤ n + 1
  | 0, l, hn => by rw [rowsF_end l (by omega)]; simp
  | n + 1, l, hn => by
    rcases Nat.lt_or_ge 1 l.length with h1 | h1
    · rw [rowsF_up l h1, List.length_cons]
      have := rowsF_length n (upF l) (by rw [upF_length]; omega)
      omega
    · rw [rowsF_end l h1]; simp
theorem rowsF_digs : ∀ (n : Nat) (l : List (List Int)), l.length ≤ n → Digs l → ∀ x ∈ rowsF l, Digs x
  | 0, l, hn, h => by rw [rowsF_end l (by omega)]; intro x hx; rw [List.mem_singleton.1 hx]; exact h
  | n + 1, l, hn, h => by
    rcases Nat.lt_or_ge 1 l.length with h1 | h1
    · rw [rowsF_up l h1]
      intro x hx
      rcases List.mem_cons.1 hx with rfl | hx
      · exact h
      · exact rowsF_digs n (upF l) (by rw [upF_length]; omega) (upF_digs l) x hx
    · rw [rowsF_end l h1]; intro x hx; rw [List.mem_singleton.1 hx]; exact h
end Go.Proofs.YtclkgflficlmiaaDoor
