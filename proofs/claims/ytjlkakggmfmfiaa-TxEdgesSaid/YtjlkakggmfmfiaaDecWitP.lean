/- Rows of inputs, cell by cell: the slice of an input's witness in the midst of them. -/
import Derived.Test.YtjlkakggmfmfiaaDecOuts
set_option maxRecDepth 100000
namespace Go.Proofs.Ytjlkakggmfmfiaa
open Go Go.RowKit
/-- The cells of inputs whose witnesses are these values. -/
def flatW (xs : List TIn) (vs : List Value) : List Value := (List.zipWith inCells xs vs).flatten
theorem flatW_cons (x : TIn) (xs : List TIn) (v : Value) (vs : List Value) : flatW (x :: xs) (v :: vs) = inCells x v ++ flatW xs vs := rfl
theorem flatW_length : (xs : List TIn) → (vs : List Value) → vs.length = xs.length → (∀ x ∈ xs, x.id.length = 32) → (flatW xs vs).length = xs.length * 36
  | [], _, _, _ => rfl
  | _ :: _, [], h, _ => by simp at h
  | x :: xs, v :: vs, h, hi => by
    rw [flatW_cons, List.length_append, inCells_length (hi x (by simp)), flatW_length xs vs (by simpa using h) (fun y hy => hi y (List.mem_cons_of_mem _ hy)), List.length_cons]
    omega
theorem flatW_get : (xs : List TIn) → (vs : List Value) → vs.length = xs.length → (∀ x ∈ xs, x.id.length = 32) → (i : Nat) → (x : TIn) → (v : Value) → xs[i]? = some x → vs[i]? = some v → (j : Nat) → j < 36 → (flatW xs vs)[i * 36 + j]? = (inCells x v)[j]?
  | [], _, _, _, _, _, _, hx, _, _, _ => by simp at hx
  | _ :: _, [], h, _, _, _, _, _, _, _, _ => by simp at h
  | y :: xs, u :: vs, h, hi, 0, x, v, hx, hv, j, hj => by
    obtain rfl : y = x := by simpa using hx
    obtain rfl : u = v := by simpa using hv
    rw [flatW_cons, Nat.zero_mul, Nat.zero_add, List.getElem?_append_left (by rw [inCells_length (hi y (by simp))]; exact hj)]
  | y :: xs, u :: vs, h, hi, i + 1, x, v, hx, hv, j, hj => by
    have hl := inCells_length (hi y (by simp)) u
    rw [flatW_cons, List.getElem?_append_right (by rw [hl]; omega), hl, show (i + 1) * 36 + j - 36 = i * 36 + j by omega]
    exact flatW_get xs vs (by simpa using h) (fun z hz => hi z (List.mem_cons_of_mem _ hz)) i x v (by simpa using hx) (by simpa using hv) j hj
theorem inCells_set (x : TIn) (h : x.id.length = 32) (u v : Value) : (inCells x u).set 35 v = inCells x v := by
  simp [inCells, nums_length, h]
theorem flatW_set : (xs : List TIn) → (vs : List Value) → vs.length = xs.length → (∀ x ∈ xs, x.id.length = 32) → (i : Nat) → i < xs.length → (v : Value) → (flatW xs vs).set (i * 36 + 35) v = flatW xs (vs.set i v)
  | [], _, _, _, _, hx, _ => by simp at hx
  | _ :: _, [], h, _, _, _, _ => by simp at h
  | y :: xs, u :: vs, h, hi, 0, _, v => by
    rw [flatW_cons, Nat.zero_mul, Nat.zero_add, List.set_append_left _ _ (by rw [inCells_length (hi y (by simp))]; decide), inCells_set y (hi y (by simp)), List.set_cons_zero, flatW_cons]
  | y :: xs, u :: vs, h, hi, i + 1, hx, v => by
    have hl := inCells_length (hi y (by simp)) u
    rw [flatW_cons, List.set_append_right _ _ (by rw [hl]; omega), hl, show (i + 1) * 36 + 35 - 36 = i * 36 + 35 by omega, flatW_set xs vs (by simpa using h) (fun z hz => hi z (List.mem_cons_of_mem _ hz)) i (by simpa using hx) v, List.set_cons_succ, flatW_cons]
/-- The block of a row of inputs whose witnesses are these values; what lies behind them is of no matter. -/
def RowW (w : World) (g : Nat) (xs : List TIn) (vs : List Value) : Prop := ∃ tail, w.heap[g]? = some (.cells (flatW xs vs ++ tail).toArray 61)
theorem RowW.cell {w : World} {g : Nat} {xs : List TIn} {vs : List Value} (h : RowW w g xs vs) (hl : vs.length = xs.length) (hi : ∀ x ∈ xs, x.id.length = 32) {i : Nat} {x : TIn} {v : Value} (hx : xs[i]? = some x) (hv : vs[i]? = some v) : w.cell? ⟨g, i * 36 + 35, none⟩ = some v := by
  obtain ⟨tail, h⟩ := h
  have hlt := (List.getElem?_eq_some_iff.1 hx).1
  refine blk_cell h ?_
  rw [List.getElem?_toArray, List.getElem?_append_left (by rw [flatW_length xs vs hl hi]; omega), flatW_get xs vs hl hi i x v hx hv 35 (by decide)]
  exact inCells_at (hi x (List.mem_of_getElem? hx)) v 3
theorem RowW.frozen {w : World} {g : Nat} {xs : List TIn} {vs : List Value} (h : RowW w g xs vs) (i : Nat) : w.frozen? ⟨g, i, none⟩ = false := by
  obtain ⟨tail, h⟩ := h
  exact blk_frozen h i
theorem RowW.set {w : World} {g : Nat} {xs : List TIn} {vs : List Value} (h : RowW w g xs vs) (hl : vs.length = xs.length) (hi : ∀ x ∈ xs, x.id.length = 32) {i : Nat} (hx : i < xs.length) (v : Value) : RowW (w.setCell ⟨g, i * 36 + 35, none⟩ v) g xs (vs.set i v) := by
  obtain ⟨tail, h⟩ := h
  refine ⟨tail, ?_⟩
  rw [blk_set h]
  congr 2
  apply Array.ext'
  rw [Array.toList_setIfInBounds, List.toList_toArray, List.toList_toArray, List.set_append_left _ _ (by rw [flatW_length xs vs hl hi]; omega), flatW_set xs vs hl hi i hx v]
theorem RowW.move {w w' : World} {g : Nat} {xs : List TIn} {vs : List Value} (h : RowW w g xs vs) (hm : w'.heap[g]? = w.heap[g]?) : RowW w' g xs vs := by
  obtain ⟨tail, h⟩ := h
  exact ⟨tail, hm.trans h⟩
theorem flatW_of (xs : List TIn) (v : Value) (cells : List Value) (hl : cells.length = xs.length * 36) (hi : ∀ x ∈ xs, x.id.length = 32) (hc : ∀ i x, xs[i]? = some x → ∀ j u, (inCells x v)[j]? = some u → cells[i * 36 + j]? = some u) : cells = flatW xs (List.replicate xs.length v) := by
  have hvl : (List.replicate xs.length v).length = xs.length := List.length_replicate
  have hfl := flatW_length xs _ hvl hi
  refine List.ext_getElem? fun m => ?_
  rcases Nat.lt_or_ge m (xs.length * 36) with hm | hm
  · have hil : m / 36 < xs.length := by omega
    have hx : xs[m / 36]? = some xs[m / 36] := List.getElem?_eq_getElem hil
    have hv : (List.replicate xs.length v)[m / 36]? = some v := by rw [List.getElem?_replicate, if_pos hil]
    have hid := hi _ (List.mem_of_getElem? hx)
    have hj : m % 36 < (inCells xs[m / 36] v).length := by rw [inCells_length hid]; omega
    have h1 := hc _ _ hx (m % 36) _ (List.getElem?_eq_getElem hj)
    have h2 := flatW_get xs _ hvl hi _ _ _ hx hv (m % 36) (by omega)
    rw [List.getElem?_eq_getElem hj] at h2
    rw [show m / 36 * 36 + m % 36 = m by omega] at h1 h2
    rw [h1, h2]
  · rw [List.getElem?_eq_none (by omega), List.getElem?_eq_none (by omega)]
/-- Inputs with no witness, laid by the call itself: their block. -/
theorem InOwn.row {w : World} {base n c : Nat} {A : Option Addr} {xs : List TIn} (h : InOwn w base (.slice A n c) n xs) (hn : 0 < n) : ∃ g, A = some ⟨g, 0, none⟩ ∧ base ≤ g ∧ g < w.heap.size ∧ n ≤ c ∧ c ≤ maxLen ∧ (∀ x ∈ xs, x.Ok) ∧ RowW w g xs (List.replicate n (.slice none 0 0)) := by
  obtain ⟨hl, cells, ⟨hcl, how⟩, hc⟩ := h
  rcases how with ⟨_, h0⟩ | ⟨g, cap, cur, hv, hb, hg, h1, h2, h3, h4⟩
  · omega
  · injection hv with e1 e2 e3
    subst e1 e3
    have hok : ∀ x ∈ xs, x.Ok := fun x hx => by
      obtain ⟨i, hi⟩ := List.getElem?_of_mem hx
      obtain ⟨cs, hK, _⟩ := hc i x hi
      exact hK.2.1
    refine ⟨g, rfl, hb, heap_lt hg, h1, h2, hok, cur.toList.drop (n * 36), ?_⟩
    have := flatW_of xs (.slice none 0 0) cells (by rw [hcl, hl]; rfl) (fun x hx => (hok x hx).idl) (fun i x hx j u hu => by
      obtain ⟨cs, hK, hcs⟩ := hc i x hx
      rw [hK.1] at hcs
      exact hcs j u hu)
    subst hl
    rw [← this, ← h4]
    show _ = some (Obj.cells (List.take (xs.length * 36) cur.toList ++ _).toArray _ _)
    rw [List.take_append_drop, Array.toArray_toList]
    exact hg
/-- Inputs whose witnesses are these rows of texts. -/
theorem RowW.toK {w : World} {S : Nat → Prop} {g : Nat} {xs : List TIn} {vs : List Value} (h : RowW w g xs vs) (hl : vs.length = xs.length) (hS : S g) (ys : List TIn) (hy : ys.length = xs.length)
    (hk : ∀ (i : Nat) (x y : TIn) (v : Value), xs[i]? = some x → ys[i]? = some y → vs[i]? = some v → ∃ cs, inK.K S w y cs ∧ cs = inCells x v) (hi : ∀ x ∈ xs, x.id.length = 32) : inK.C S w (some ⟨g, 0, none⟩) ys.length ys := by
  obtain ⟨tail, h⟩ := h
  refine ⟨rfl, fun _ => ⟨g, 0, rfl, hS, heap_lt h, fun i y hyi => ?_⟩⟩
  have hlt := (List.getElem?_eq_some_iff.1 hyi).1
  have hx : xs[i]? = some (xs[i]'(by omega)) := List.getElem?_eq_getElem (by omega)
  have hv : vs[i]? = some (vs[i]'(by omega)) := List.getElem?_eq_getElem (by omega)
  obtain ⟨cs, hK, hcs⟩ := hk i _ y _ hx hyi hv
  refine ⟨cs, hK, fun j u hu => ?_⟩
  rw [hcs] at hu
  have hj : j < 36 := by
    have := (List.getElem?_eq_some_iff.1 hu).1
    rwa [inCells_length (hi _ (List.mem_of_getElem? hx))] at this
  refine blk_cell h ?_
  rw [Nat.zero_add, List.getElem?_toArray]
  show (flatW xs vs ++ tail)[i * 36 + j]? = _
  rw [List.getElem?_append_left (by rw [flatW_length xs vs hl hi]; omega), flatW_get xs vs hl hi i _ _ hx hv j hj]
  exact hu
end Go.Proofs.Ytjlkakggmfmfiaa
