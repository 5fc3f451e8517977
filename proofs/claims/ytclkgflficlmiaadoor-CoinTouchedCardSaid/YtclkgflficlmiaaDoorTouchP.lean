/- Digests in order, each once, in plain terms. -/
import Derived.Test.YtclkgflficlmiaaDoorSumA
import Derived.Shelf.SlSortCmp.WholeK
import Derived.Shelf.SlSortCmp.NoneTotal
set_option maxRecDepth 100000
set_option linter.unusedVariables false
namespace Go.Proofs.YtclkgflficlmiaaDoor
open Go Go.RowKit Go.Sort
/-- What slices.Compare says of two rows of bytes. -/
def cmpL (x y : List Int) : Int := if x < y then -1 else if y < x then 1 else 0
theorem cmpL_neg {x y : List Int} : cmpL x y < 0 ↔ x < y := by
  unfold cmpL
  split
  · rename_i h
    exact ⟨fun _ => h, fun _ => by decide⟩
  · rename_i h
    split <;> exact ⟨fun h2 => absurd h2 (by decide), fun h2 => absurd h2 h⟩
theorem cmpL_cons (a b : Int) (x y : List Int) : cmpL (a :: x) (b :: y) = if a < b then -1 else if b < a then 1 else cmpL x y := by
  unfold cmpL
  simp only [List.cons_lt_cons_iff]
  by_cases h1 : a < b
  · rw [if_pos (Or.inl h1), if_pos h1]
  · by_cases h2 : b < a
    · rw [if_neg (by rintro (h | ⟨h, _⟩) <;> omega), if_pos (Or.inl h2), if_neg h1, if_pos h2]
    · obtain rfl : a = b := by omega
      simp
theorem cmpL_nil : cmpL [] [] = 0 := rfl
theorem cmpL_step {xs ys : List Int} {i : Nat} {x y : Int} (hx : xs[i]? = some x) (hy : ys[i]? = some y) : cmpL (xs.drop i) (ys.drop i) = if x < y then -1 else if y < x then 1 else cmpL (xs.drop (i + 1)) (ys.drop (i + 1)) := by
  obtain ⟨hi, he⟩ := List.getElem?_eq_some_iff.1 hx
  obtain ⟨hj, hf⟩ := List.getElem?_eq_some_iff.1 hy
  rw [List.drop_eq_getElem_cons hi, List.drop_eq_getElem_cons hj, he, hf, cmpL_cons]
/-- A digest. -/
abbrev DigT := { d : List Int // Dig d }
instance : Inhabited DigT := ⟨⟨zeros32, zeros32_dig⟩⟩
def digE (x : DigT) : List Value := nums .u8 x.1
def digC (x y : DigT) : Int := cmpL x.1 y.1
theorem digE_len (x : DigT) : (digE x).length = 32 := by unfold digE; rw [nums_length]; exact x.2.1
theorem digE_one (x : DigT) : ∀ v ∈ digE x, v.oneCell' = true := nums_one _ _
theorem digC_lt (x y : DigT) : ltOf digC x y = decide (x.1 < y.1) := by
  unfold ltOf digC
  exact decide_eq_decide.2 cmpL_neg
theorem digC_swo : SWO (ltOf digC) where
  irrefl x := by rw [digC_lt]; exact decide_eq_false (List.lt_irrefl _)
  trans x y z h1 h2 := by
    rw [digC_lt] at *
    exact decide_eq_true (List.lt_trans (of_decide_eq_true h1) (of_decide_eq_true h2))
  ntrans x y z h1 h2 := by
    rw [digC_lt] at *
    exact decide_eq_false (List.not_lt.2 (List.le_trans (List.not_lt.1 (of_decide_eq_false h2)) (List.not_lt.1 (of_decide_eq_false h1))))
/-- Rows one behind the other, equal ones once. -/
def cmpR (l : List (List Int)) : List (List Int) := l.foldl (fun acc x => if acc.getLast? = some x then acc else acc ++ [x]) []
theorem cmpR_snoc (l : List (List Int)) (x : List Int) : cmpR (l ++ [x]) = if (cmpR l).getLast? = some x then cmpR l else cmpR l ++ [x] := by unfold cmpR; rw [List.foldl_append]; rfl
theorem snoc_ind {α : Type} {p : List α → Prop} (h0 : p []) (h1 : ∀ l x, p l → p (l ++ [x])) (l : List α) : p l := by
  have : ∀ l : List α, p l.reverse := by
    intro l
    induction l with
    | nil => exact h0
    | cons x r ih => rw [List.reverse_cons]; exact h1 _ _ ih
  have h := this l.reverse
  rwa [List.reverse_reverse] at h
theorem last_snoc {α : Type} (l : List α) (x : α) : (l ++ [x]).getLast? = some x := by simp
theorem cmpR_last (l : List (List Int)) : (cmpR l).getLast? = l.getLast? := by
  refine snoc_ind (p := fun l => (cmpR l).getLast? = l.getLast?) rfl (fun l x ih => ?_) l
  rw [cmpR_snoc, last_snoc]
  split
  · rename_i h
    exact h
  · exact last_snoc _ _
theorem cmpR_mem (l : List (List Int)) : ∀ x, x ∈ cmpR l ↔ x ∈ l := by
  refine snoc_ind (p := fun l => ∀ x, x ∈ cmpR l ↔ x ∈ l) (fun x => Iff.rfl) (fun l y ih x => ?_) l
  rw [cmpR_snoc]
  split
  · rename_i h
    rw [ih x, List.mem_append, List.mem_singleton]
    refine ⟨Or.inl, fun h2 => h2.elim id (fun e => ?_)⟩
    rw [e]
    exact (ih y).1 (List.mem_of_getLast? h)
  · rw [List.mem_append, List.mem_append, ih x]
theorem cmpR_le (l : List (List Int)) : (cmpR l).length ≤ l.length := by
  refine snoc_ind (p := fun l => (cmpR l).length ≤ l.length) (Nat.le_refl _) (fun l y ih => ?_) l
  rw [cmpR_snoc, List.length_append]
  split
  · omega
  · rw [List.length_append]; omega
/-- Behind a row in order: each once, and in order. -/
theorem cmpR_asc (l : List (List Int)) (h : l.Pairwise (fun a b => ¬ b < a)) : (cmpR l).Pairwise (fun a b => a < b) := by
  revert h
  refine snoc_ind (p := fun l => l.Pairwise (fun a b => ¬ b < a) → (cmpR l).Pairwise (fun a b => a < b)) (fun _ => List.Pairwise.nil) (fun l x ih h => ?_) l
  rw [List.pairwise_append] at h
  obtain ⟨h1, _, h3⟩ := h
  have ih := ih h1
  rw [cmpR_snoc]
  split
  · exact ih
  · rename_i hne
    rw [List.pairwise_append]
    refine ⟨ih, List.pairwise_singleton _ _, fun a ha b hb => ?_⟩
    obtain rfl : b = x := by simpa using hb
    have hle : ¬ b < a := h3 a ((cmpR_mem l a).1 ha) b (by simp)
    refine Decidable.byContradiction fun hlt => ?_
    obtain rfl : a = b := List.le_antisymm (List.not_lt.1 hle) (List.not_lt.1 hlt)
    -- the last one is not below what lies ahead of it
    obtain ⟨z, hz⟩ : ∃ z, (cmpR l).getLast? = some z := by
      cases hc : (cmpR l).getLast? with
      | some z => exact ⟨z, rfl⟩
      | none => rw [List.getLast?_eq_none_iff] at hc; rw [hc] at ha; cases ha
    have hzl : z ∈ l := List.mem_of_getLast? (by rw [← cmpR_last]; exact hz)
    have hza : ¬ a < z := h3 z hzl a (by simp)
    have hzn : z ≠ a := fun e => hne (by rw [hz, e])
    obtain ⟨pre, hpre⟩ : ∃ pre, cmpR l = pre ++ [z] := by
      obtain ⟨pre, hp⟩ := List.getLast?_eq_some_iff.1 hz
      exact ⟨pre, hp⟩
    rw [hpre, List.pairwise_append] at ih
    rw [hpre, List.mem_append, List.mem_singleton] at ha
    rcases ha with ha | ha
    · have := ih.2.2 a ha z (by simp)
      exact hza this
    · exact hzn ha.symm
/-- One more: equal to the one ahead of it, or not. -/
theorem cmpR_take {l : List (List Int)} {i : Nat} {x y : List Int} (hx : l[i]? = some x) (hy : l[i + 1]? = some y) : cmpR (l.take (i + 2)) = if x = y then cmpR (l.take (i + 1)) else cmpR (l.take (i + 1)) ++ [y] := by
  have e1 : l.take (i + 2) = l.take (i + 1) ++ [y] := by rw [List.take_add_one, hy]; rfl
  have e2 : (l.take (i + 1)).getLast? = some x := by rw [List.take_add_one, hx]; simp
  rw [e1, cmpR_snoc, cmpR_last, e2]
  by_cases h : x = y
  · rw [if_pos (by rw [h]), if_pos h]
  · rw [if_neg (fun e => h (Option.some.inj e)), if_neg h]
theorem cmpR_one (l : List (List Int)) : cmpR (l.take 1) = l.take 1 := by
  cases l with
  | nil => rfl
  | cons a r => rfl
/-- Two rows without a double, of one content, are of one length. -/
theorem len_same {α : Type} [BEq α] [LawfulBEq α] {a b : List α} (ha : a.Nodup) (hb : b.Nodup) (h : ∀ x, x ∈ a ↔ x ∈ b) : a.length = b.length := by
  have e : ∀ l : List α, keys (l.map fun x => (x, ())) = l := fun l => by
    induction l with
    | nil => rfl
    | cons x r ih => exact congrArg (x :: ·) ih
  have hp := perm_of_lookup (a.map fun x => (x, ())) (b.map fun x => (x, ())) (by rw [e]; exact ha) (by rw [e]; exact hb) (fun x => by
    have key : ∀ l : List α, (l.map fun x => (x, ())).lookup x = if x ∈ l then some () else none := fun l => by
      split
      · rename_i hm
        cases hl : (l.map fun x => (x, ())).lookup x with
        | some u => rfl
        | none => rw [lookup_none_iff, e] at hl; exact absurd hm hl
      · rename_i hm
        rw [lookup_none_iff, e]
        exact hm
    rw [key, key]
    by_cases hm : x ∈ a
    · rw [if_pos hm, if_pos ((h x).1 hm)]
    · rw [if_neg hm, if_neg (fun hb => hm ((h x).2 hb))])
  have := hp.length_eq
  simpa using this
theorem asc_nodup {l : List (List Int)} (h : l.Pairwise (fun a b => a < b)) : l.Nodup := h.imp fun {a b} hab e => by rw [e] at hab; exact List.lt_irrefl _ hab
/-- What the sort leaves. -/
theorem sorted_dig {d d' : Array DigT} (h1 : PermIn 0 d.size d d') (h2 : SortedIn (ltOf digC) 0 d.size d') : d'.size = d.size ∧ (d'.toList.map (·.1)).Perm (d.toList.map (·.1)) ∧ (d'.toList.map (·.1)).Pairwise (fun a b => ¬ b < a) := by
  obtain ⟨hs, _, hp⟩ := h1
  have e1 : d.extract 0 d.size = d := Array.extract_size
  have e2 : d'.extract 0 d.size = d' := by rw [← hs]; exact Array.extract_size
  rw [e1, e2] at hp
  refine ⟨hs, hp.map _, ?_⟩
  rw [List.pairwise_map, List.pairwise_iff_getElem]
  intro i j hi hj hij
  have h := h2 i j (Nat.zero_le _) hij (by rw [← hs]; simpa using hj)
  rw [digC_lt, getElem!_pos d' j (by simpa using hj), getElem!_pos d' i (by simpa using hi)] at h
  simpa using of_decide_eq_false h
end Go.Proofs.YtclkgflficlmiaaDoor
