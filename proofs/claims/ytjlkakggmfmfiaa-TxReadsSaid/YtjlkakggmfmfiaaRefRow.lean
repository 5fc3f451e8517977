/- Rows of the reference's inputs whose witnesses are being laid. -/
import Derived.Test.YtjlkakggmfmfiaaRefDO
import Derived.Test.YtjlkakggmfmfiaaDecFin
set_option maxRecDepth 100000
set_option linter.unusedVariables false
namespace Go.Proofs.Ytjlkakggmfmfiaa
open Go Go.RowKit
/-- The block of a row of inputs whose witnesses are these values; what lies behind them is of no matter. -/
def RowWR (w : World) (g : Nat) (xs : List TIn) (vs : List Value) : Prop := ∃ tail, w.heap[g]? = some (.cells (flatW xs vs ++ tail).toArray 69)
theorem RowWR.cell {w : World} {g : Nat} {xs : List TIn} {vs : List Value} (h : RowWR w g xs vs) (hl : vs.length = xs.length) (hi : ∀ x ∈ xs, x.id.length = 32) {i : Nat} {x : TIn} {v : Value} (hx : xs[i]? = some x) (hv : vs[i]? = some v) : w.cell? ⟨g, i * 36 + 35, none⟩ = some v := by
  obtain ⟨tail, h⟩ := h
  have hlt := (List.getElem?_eq_some_iff.1 hx).1
  refine blk_cell h ?_
  rw [List.getElem?_toArray, List.getElem?_append_left (by rw [flatW_length xs vs hl hi]; omega), flatW_get xs vs hl hi i x v hx hv 35 (by decide)]
  exact inCells_at (hi x (List.mem_of_getElem? hx)) v 3
theorem RowWR.frozen {w : World} {g : Nat} {xs : List TIn} {vs : List Value} (h : RowWR w g xs vs) (i : Nat) : w.frozen? ⟨g, i, none⟩ = false := by
  obtain ⟨tail, h⟩ := h
  exact blk_frozen h i
theorem RowWR.set {w : World} {g : Nat} {xs : List TIn} {vs : List Value} (h : RowWR w g xs vs) (hl : vs.length = xs.length) (hi : ∀ x ∈ xs, x.id.length = 32) {i : Nat} (hx : i < xs.length) (v : Value) : RowWR (w.setCell ⟨g, i * 36 + 35, none⟩ v) g xs (vs.set i v) := by
  obtain ⟨tail, h⟩ := h
  refine ⟨tail, ?_⟩
  rw [blk_set h]
  congr 2
  apply Array.ext'
  rw [Array.toList_setIfInBounds, List.toList_toArray, List.toList_toArray, List.set_append_left _ _ (by rw [flatW_length xs vs hl hi]; omega), flatW_set xs vs hl hi i hx v]
theorem RowWR.move {w w' : World} {g : Nat} {xs : List TIn} {vs : List Value} (h : RowWR w g xs vs) (hm : w'.heap[g]? = w.heap[g]?) : RowWR w' g xs vs := by
  obtain ⟨tail, h⟩ := h
  exact ⟨tail, hm.trans h⟩
/-- Inputs with no witness, laid by the call itself: their block. -/
theorem InOwnR.row {w : World} {base n c : Nat} {A : Option Addr} {xs : List TIn} (h : InOwnR w base (.slice A n c) n xs) (hn : 0 < n) : ∃ g, A = some ⟨g, 0, none⟩ ∧ base ≤ g ∧ g < w.heap.size ∧ n ≤ c ∧ c ≤ maxLen ∧ (∀ x ∈ xs, x.Ok) ∧ RowWR w g xs (List.replicate n (.slice none 0 0)) := by
  obtain ⟨hl, cells, ⟨hcl, how⟩, hc⟩ := h
  rcases how with ⟨_, h0⟩ | ⟨g, cap, cur, hv, hb, hg, h1, h2, h3, h4⟩
  · omega
  · injection hv with e1 e2 e3
    subst e1 e3
    have hok : ∀ x ∈ xs, x.Ok := fun x hx => by
      obtain ⟨i, hi⟩ := List.getElem?_of_mem hx
      obtain ⟨cs, hK, _⟩ := hc i x hi
      exact hK.2.1
    refine ⟨g, rfl, hb, heap_lt hg, h1, h2, hok, cur.toList.drop (n * 36), ?_⟩
    have := flatW_of xs (.slice none 0 0) cells (by rw [hcl, hl]; rfl) (fun x hx => (hok x hx).idl) (fun i x hx j u hu => by
      obtain ⟨cs, hK, hcs⟩ := hc i x hx
      rw [hK.1] at hcs
      exact hcs j u hu)
    subst hl
    rw [← this, ← h4]
    show _ = some (Obj.cells (List.take (xs.length * 36) cur.toList ++ _).toArray _ _)
    rw [List.take_append_drop, Array.toArray_toList]
    exact hg
/-- Inputs whose witnesses are these rows of texts. -/
theorem RowWR.toK {w : World} {S : Nat → Prop} {g : Nat} {xs : List TIn} {vs : List Value} (h : RowWR w g xs vs) (hl : vs.length = xs.length) (hS : S g) (ys : List TIn) (hy : ys.length = xs.length)
    (hk : ∀ (i : Nat) (x y : TIn) (v : Value), xs[i]? = some x → ys[i]? = some y → vs[i]? = some v → ∃ cs, inK.K S w y cs ∧ cs = inCells x v) (hi : ∀ x ∈ xs, x.id.length = 32) : inK.C S w (some ⟨g, 0, none⟩) ys.length ys := by
  obtain ⟨tail, h⟩ := h
  refine ⟨rfl, fun _ => ⟨g, 0, rfl, hS, heap_lt h, fun i y hyi => ?_⟩⟩
  have hlt := (List.getElem?_eq_some_iff.1 hyi).1
  have hx : xs[i]? = some (xs[i]'(by omega)) := List.getElem?_eq_getElem (by omega)
  have hv : vs[i]? = some (vs[i]'(by omega)) := List.getElem?_eq_getElem (by omega)
  obtain ⟨cs, hK, hcs⟩ := hk i _ y _ hx hyi hv
  refine ⟨cs, hK, fun j u hu => ?_⟩
  rw [hcs] at hu
  have hj : j < 36 := by
    have := (List.getElem?_eq_some_iff.1 hu).1
    rwa [inCells_length (hi _ (List.mem_of_getElem? hx))] at this
  refine blk_cell h ?_
  rw [Nat.zero_add, List.getElem?_toArray]
  show (flatW xs vs ++ tail)[i * 36 + j]? = _
  rw [List.getElem?_append_left (by rw [flatW_length xs vs hl hi]; omega), flatW_get xs vs hl hi i _ _ hx hv j hj]
  exact hu
/-- The first rows hold the witnesses of ys, the rest none. -/
def WitStR (w : World) (lo r gi k : Nat) (xs ys : List TIn) (vs : List Value) : Prop :=
  vs.length = xs.length ∧ ys.length = k ∧ RowWR w gi xs vs ∧ (∀ (i : Nat) (x y : TIn) (v : Value), xs[i]? = some x → ys[i]? = some y → vs[i]? = some v → ∃ cs, inK.K (fun b => lo ≤ b ∧ b ≠ r ∧ b ≠ gi) w y cs ∧ cs = inCells x v) ∧ (∀ i, k ≤ i → i < xs.length → vs[i]? = some (.slice none 0 0))
theorem wit_allR {w : World} {lo r gi : Nat} {xs ys : List TIn} {vs : List Value} (h : WitStR w lo r gi xs.length xs ys vs) (hi : ∀ x ∈ xs, x.id.length = 32) (S : Nat → Prop) (hS : S gi) (hSS : ∀ b, lo ≤ b → b ≠ r → b ≠ gi → S b) : inK.C S w (some ⟨gi, 0, none⟩) ys.length ys := by
  obtain ⟨h1, h2, h3, h4, _⟩ := h
  refine h3.toK h1 hS ys h2 (fun i x y v hx hy hv => ?_) hi
  obtain ⟨cs, hK, hcs⟩ := h4 i x y v hx hy hv
  exact ⟨cs, inK.mono (fun b hb => hSS b hb.1 hb.2.1 hb.2.2) hK, hcs⟩
theorem in_wit0R {w : World} {base n c : Nat} {A : Option Addr} {xs : List TIn} (h : InOwnR w base (.slice A n c) n xs) : ∀ x ∈ xs, x.wit = [] := by
  obtain ⟨_, cells, _, hc⟩ := h
  intro x hx
  obtain ⟨i, hi⟩ := List.getElem?_of_mem hx
  obtain ⟨cs, hK, _⟩ := hc i x hi
  exact hK.2.2
/-- Inputs of the call's own with no witness yet are inputs. -/
theorem InOwnR.C {w : World} {base n c : Nat} {A : Option Addr} {xs : List TIn} (h : InOwnR w base (.slice A n c) n xs) (S : Nat → Prop) (hS : ∀ b, base ≤ b → S b) : inK.C S w A n xs := by
  rcases Nat.eq_zero_or_pos n with h0 | h0
  · subst h0
    have := List.eq_nil_of_length_eq_zero h.1
    subst this
    exact RK.C.nil _ _ _ _
  · obtain ⟨g, rfl, hb, hlt, _, _, hok, hrow⟩ := InOwnR.row h h0
    have hl := h.1
    have hw := in_wit0R h
    have := hrow.toK (S := S) (by rw [List.length_replicate, hl]) (hS g hb) xs rfl (fun i x y v hx hy hv => by
      obtain rfl : x = y := Option.some.inj (hx.symm.trans hy)
      have hxm := List.mem_of_getElem? hx
      rw [List.getElem?_replicate] at hv
      split at hv
      · obtain rfl := Option.some.inj hv
        exact ⟨_, ⟨none, 0, 0, rfl, hok x hxm, Nat.le_refl _, Nat.zero_le _, by rw [hw x hxm]; exact RK.C.nil _ _ _ _⟩, rfl⟩
      · cases hv) (fun x hx => (hok x hx).idl)
    rwa [hl] at this
end Go.Proofs.Ytjlkakggmfmfiaa
