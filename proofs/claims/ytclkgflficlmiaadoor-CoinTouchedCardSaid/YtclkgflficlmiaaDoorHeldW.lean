/- Rows of inputs, cell by cell: the slice of an input's witness in the midst of them. | A drawn region in which one operation (f, which waits for all that loads what it stores) may undo what is held: S is asked behind every operation but f. -/
import Derived.Test.YtclkgflficlmiaaDoorDecOuts
import Derived.Deep.RegionHeld
/-! ## DecWitP -/
section
set_option maxRecDepth 100000
namespace Go.Proofs.YtclkgflficlmiaaDoor
open Go Go.RowKit
/-- The cells of inputs whose witnesses are these values. -/
def flatW (xs : List TIn) (vs : List Value) : List Value := (List.zipWith inCells xs vs).flatten
theorem flatW_cons (x : TIn) (xs : List TIn) (v : Value) (vs : List Value) : flatW (x :: xs) (v :: vs) = inCells x v ++ flatW xs vs := rfl
theorem flatW_length : (xs : List TIn) → (vs : List Value) → vs.length = xs.length → (∀ x ∈ xs, x.id.length = 32) → (flatW xs vs).length = xs.length * 36
  | [], _, _, _ => rfl
  | _ :: _, [], h, _ => by simp at h
  | x :: xs, v :: vs, h, hi => by
    rw [flatW_cons, List.length_append, inCells_length (hi x (by simp)), flatW_length xs vs (by simpa using h) (fun y hy => hi y (List.mem_cons_of_mem _ hy)), List.length_cons]
    omega
theorem flatW_get : (xs : List TIn) → (vs : List Value) → vs.length = xs.length → (∀ x ∈ xs, x.id.length = 32) → (i : Nat) → (x : TIn) → (v : Value) → xs[i]? = some x → vs[i]? = some v → (j : Nat) → j < 36 → (flatW xs vs)[i * 36 + j]? = (inCells x v)[j]?
  | [], _, _, _, _, _, _, hx, _, _, _ => by simp at hx
  | _ :: _, [], h, _, _, _, _, _, _, _, _ => by simp at h
  | y :: xs, u :: vs, h, hi, 0, x, v, hx, hv, j, hj => by
    obtain rfl : y = x := by simpa using hx
    obtain rfl : u = v := by simpa using hv
    rw [flatW_cons, Nat.zero_mul, Nat.zero_add, List.getElem?_append_left (by rw [inCells_length (hi y (by simp))]; exact hj)]
  | y :: xs, u :: vs, h, hi, i + 1, x, v, hx, hv, j, hj => by
    have hl := inCells_length (hi y (by simp)) u
    rw [flatW_cons, List.getElem?_append_right (by rw [hl]; omega), hl, show (i + 1) * 36 + j - 36 = i * 36 + j by omega]
    exact flatW_get xs vs (by simpa using h) (fun z hz => hi z (List.mem_cons_of_mem _ hz)) i x v (by simpa using hx) (by simpa using hv) j hj
theorem inCells_set (x : TIn) (h : x.id.length = 32) (u v : Value) : (inCells x u).set 35 v = inCells x v := by
  simp [inCells, nums_length, h]
theorem flatW_set : (xs : List TIn) → (vs : List Value) → vs.length = xs.length → (∀ x ∈ xs, x.id.length = 32) → (i : Nat) → i < xs.length → (v : Value) → (flatW xs vs).set (i * 36 + 35) v = flatW xs (vs.set i v)
  | [], _, _, _, _, hx, _ => by simp at hx
  | _ :: _, [], h, _, _, _, _ => by simp at h
  | y :: xs, u :: vs, h, hi, 0, _, v => by
    rw [flatW_cons, Nat.zero_mul, Nat.zero_add, List.set_append_left _ _ (by rw [inCells_length (hi y (by simp))]; decide), inCells_set y (hi y (by simp)), List.set_cons_zero, flatW_cons]
  | y :: xs, u :: vs, h, hi, i + 1, hx, v => by
    have hl := inCells_length (hi y (by simp)) u
    rw [flatW_cons, List.set_append_right _ _ (by rw [hl]; omega), hl, show (i + 1) * 36 + 35 - 36 = i * 36 + 35 by omega, flatW_set xs vs (by simpa using h) (fun z hz => hi z (List.mem_cons_of_mem _ hz)) i (by simpa using hx) v, List.set_cons_succ, flatW_cons]
/-- The block of a row of inputs whose witnesses are these values; what lies behind them is of no matter. -/
def RowW (w : World) (g : Nat) (xs : List TIn) (vs : List Value) : Prop := ∃ tail, w.heap[g]? = some (.cells (flatW xs vs ++ tail).toArray 67)
theorem RowW.cell {w : World} {g : Nat} {xs : List TIn} {vs : List Value} (h : RowW w g xs vs) (hl : vs.length = xs.length) (hi : ∀ x ∈ xs, x.id.length = 32) {i : Nat} {x : TIn} {v : Value} (hx : xs[i]? = some x) (hv : vs[i]? = some v) : w.cell? ⟨g, i * 36 + 35, none⟩ = some v := by
  obtain ⟨tail, h⟩ := h
  have hlt := (List.getElem?_eq_some_iff.1 hx).1
  refine blk_cell h ?_
  rw [List.getElem?_toArray, List.getElem?_append_left (by rw [flatW_length xs vs hl hi]; omega), flatW_get xs vs hl hi i x v hx hv 35 (by decide)]
  exact inCells_at (hi x (List.mem_of_getElem? hx)) v 3
theorem RowW.frozen {w : World} {g : Nat} {xs : List TIn} {vs : List Value} (h : RowW w g xs vs) (i : Nat) : w.frozen? ⟨g, i, none⟩ = false := by
  obtain ⟨tail, h⟩ := h
  exact blk_frozen h i
theorem RowW.set {w : World} {g : Nat} {xs : List TIn} {vs : List Value} (h : RowW w g xs vs) (hl : vs.length = xs.length) (hi : ∀ x ∈ xs, x.id.length = 32) {i : Nat} (hx : i < xs.length) (v : Value) : RowW (w.setCell ⟨g, i * 36 + 35, none⟩ v) g xs (vs.set i v) := by
  obtain ⟨tail, h⟩ := h
  refine ⟨tail, ?_⟩
  rw [blk_set h]
  congr 2
  apply Array.ext'
  rw [Array.toList_setIfInBounds, List.toList_toArray, List.toList_toArray, List.set_append_left _ _ (by rw [flatW_length xs vs hl hi]; omega), flatW_set xs vs hl hi i hx v]
theorem RowW.move {w w' : World} {g : Nat} {xs : List TIn} {vs : List Value} (h : RowW w g xs vs) (hm : w'.heap[g]? = w.heap[g]?) : RowW w' g xs vs := by
  obtain ⟨tail, h⟩ := h
  exact ⟨tail, hm.trans h⟩
theorem flatW_of (xs : List TIn) (v : Value) (cells : List Value) (hl : cells.length = xs.length * 36) (hi : ∀ x ∈ xs, x.id.length = 32) (hc : ∀ i x, xs[i]? = some x → ∀ j u, (inCells x v)[j]? = some u → cells[i * 36 + j]? = some u) : cells = flatW xs (List.replicate xs.length v) := by
  have hvl : (List.replicate xs.length v).length = xs.length := List.length_replicate
  have hfl := flatW_length xs _ hvl hi
  refine List.ext_getElem? fun m => ?_
  rcases Nat.lt_or_ge m (xs.length * 36) with hm | hm
  · have hil : m / 36 < xs.length := by omega
    have hx : xs[m / 36]? = some xs[m / 36] := List.getElem?_eq_getElem hil
    have hv : (List.replicate xs.length v)[m / 36]? = some v := by rw [List.getElem?_replicate, if_pos hil]
    have hid := hi _ (List.mem_of_getElem? hx)
    have hj : m % 36 < (inCells xs[m / 36] v).length := by rw [inCells_length hid]; omega
    have h1 := hc _ _ hx (m % 36) _ (List.getElem?_eq_getElem hj)
    have h2 := flatW_get xs _ hvl hi _ _ _ hx hv (m % 36) (by omega)
    rw [List.getElem?_eq_getElem hj] at h2
    rw [show m / 36 * 36 + m % 36 = m by omega] at h1 h2
    rw [h1, h2]
  · rw [List.getElem?_eq_none (by omega), List.getElem?_eq_none (by omega)]
/-- Inputs with no witness, laid by the call itself: their block. -/
theorem InOwn.row {w : World} {base n c : Nat} {A : Option Addr} {xs : List TIn} (h : InOwn w base (.slice A n c) n xs) (hn : 0 < n) : ∃ g, A = some ⟨g, 0, none⟩ ∧ base ≤ g ∧ g < w.heap.size ∧ n ≤ c ∧ c ≤ maxLen ∧ (∀ x ∈ xs, x.Ok) ∧ RowW w g xs (List.replicate n (.slice none 0 0)) := by
  obtain ⟨hl, cells, ⟨hcl, how⟩, hc⟩ := h
  rcases how with ⟨_, h0⟩ | ⟨g, cap, cur, hv, hb, hg, h1, h2, h3, h4⟩
  · omega
  · injection hv with e1 e2 e3
    subst e1 e3
    have hok : ∀ x ∈ xs, x.Ok := fun x hx => by
      obtain ⟨i, hi⟩ := List.getElem?_of_mem hx
      obtain ⟨cs, hK, _⟩ := hc i x hi
      exact hK.2.1
    refine ⟨g, rfl, hb, heap_lt hg, h1, h2, hok, cur.toList.drop (n * 36), ?_⟩
    have := flatW_of xs (.slice none 0 0) cells (by rw [hcl, hl]; rfl) (fun x hx => (hok x hx).idl) (fun i x hx j u hu => by
      obtain ⟨cs, hK, hcs⟩ := hc i x hx
      rw [hK.1] at hcs
      exact hcs j u hu)
    subst hl
    rw [← this, ← h4]
    show _ = some (Obj.cells (List.take (xs.length * 36) cur.toList ++ _).toArray _ _)
    rw [List.take_append_drop, Array.toArray_toList]
    exact hg
/-- Inputs whose witnesses are these rows of texts. -/
theorem RowW.toK {w : World} {S : Nat → Prop} {g : Nat} {xs : List TIn} {vs : List Value} (h : RowW w g xs vs) (hl : vs.length = xs.length) (hS : S g) (ys : List TIn) (hy : ys.length = xs.length)
    (hk : ∀ (i : Nat) (x y : TIn) (v : Value), xs[i]? = some x → ys[i]? = some y → vs[i]? = some v → ∃ cs, inK.K S w y cs ∧ cs = inCells x v) (hi : ∀ x ∈ xs, x.id.length = 32) : inK.C S w (some ⟨g, 0, none⟩) ys.length ys := by
  obtain ⟨tail, h⟩ := h
  refine ⟨rfl, fun _ => ⟨g, 0, rfl, hS, heap_lt h, fun i y hyi => ?_⟩⟩
  have hlt := (List.getElem?_eq_some_iff.1 hyi).1
  have hx : xs[i]? = some (xs[i]'(by omega)) := List.getElem?_eq_getElem (by omega)
  have hv : vs[i]? = some (vs[i]'(by omega)) := List.getElem?_eq_getElem (by omega)
  obtain ⟨cs, hK, hcs⟩ := hk i _ y _ hx hyi hv
  refine ⟨cs, hK, fun j u hu => ?_⟩
  rw [hcs] at hu
  have hj : j < 36 := by
    have := (List.getElem?_eq_some_iff.1 hu).1
    rwa [inCells_length (hi _ (List.mem_of_getElem? hx))] at this
  refine blk_cell h ?_
  rw [Nat.zero_add, List.getElem?_toArray]
  show (flatW xs vs ++ tail)[i * 36 + j]? = _
  rw [List.getElem?_append_left (by rw [flatW_length xs vs hl hi]; omega), flatW_get xs vs hl hi i _ _ hx hv j hj]
  exact hu
end Go.Proofs.YtclkgflficlmiaaDoor
end

/-! ## HeldU -/
section
set_option maxRecDepth 100000
namespace Go.Proofs.YtclkgflficlmiaaDoor
open Go Go.RowKit
variable {P : Program} {ops : Array Oper} {Q : Exit → Act → World → Prop} {md : Region.Mode} {S : World → Prop} {f : Nat}
def wpAnyU (P : Program) (md : Region.Mode) (ops : Array Oper) (Q : Exit → Act → World → Prop) (S : World → Prop) (f : Nat) : Nat → Array Bool → Act → World → Prop
  | 0, listed, a, w => Region.ready md ops listed = [] ∧ Q .normal a w
  | n + 1, listed, a, w => (Region.ready md ops listed = [] → Q .normal a w) ∧
    ∀ i ∈ Region.ready md ops listed, wpOp P ops Q i (fun a' w' => (i ≠ f → S w') ∧ wpAnyU P md ops Q S f n (listed.setIfInBounds i true) a' w') a w
theorem wpAny_of_U : ∀ (n : Nat) (listed : Array Bool) (a : Act) (w : World), wpAnyU P md ops Q S f n listed a w → wpAny P md ops Q n listed a w
  | 0, _, _, _, h => h
  | n + 1, _, _, _, h => ⟨h.1, fun i hi => wpOp_mono (fun a' w' h' => wpAny_of_U n _ a' w' h'.2) (h.2 i hi)⟩
/-- f waits for i. -/
def Waits (md : Region.Mode) (ops : Array Oper) (f i : Nat) : Bool := match ops[f]? with
  | some o => o.after.any fun e => Region.binds md e && e.on == i
  | none => false
theorem wpAnyU_first {i : Nat} {oi : Oper} {v : Value} (hi : ops[i]? = some oi) (hsel : ∀ (j : Nat) (o : Oper) cs b, ops[j]? = some o → o.op ≠ .select cs b)
    (hQ : ∀ c a w, Q (.panic c) (a.put oi.dst v) w → Q (.panic c) a w) (hw : Waits md ops f i = true) :
    ∀ (n : Nat) (listed : Array Bool) (a : Act) (w : World),
      (∀ j oj, ops[j]? = some oj → j ≠ i → listed.getD j true = false → (∀ e ∈ oj.after, Region.binds md e = true → e.on ≠ i) → oi.apart ops oj = true) →
      i ∈ Region.ready md ops listed → YieldsIf P ops S oi v a → S w →
      wpAnyU P md ops Q S f n (listed.setIfInBounds i true) (a.put oi.dst v) w → wpAnyU P md ops Q S f (n + 1) listed a w := by
  intro n
  induction n with
  | zero =>
    intro listed a w _ hr hy hS H
    refine ⟨fun h => (by rw [h] at hr; cases hr), fun j hj => ?_⟩
    by_cases hji : j = i
    · subst hji; exact hy.wpOp hi hS ⟨fun _ => hS, H⟩
    · have := ready_mono hj hji
      rw [H.1] at this
      cases this
  | succ n ih =>
    intro listed a w hfree hr hy hS H
    refine ⟨fun h => (by rw [h] at hr; cases hr), fun j hj => ?_⟩
    by_cases hji : j = i
    · subst hji; exact hy.wpOp hi hS ⟨fun _ => hS, H⟩
    · have h1 := H.2 j (ready_mono hj hji)
      obtain ⟨hjun, oj, hoj, hall⟩ := mem_ready.1 hj
      have hnot : ∀ e ∈ oj.after, Region.binds md e = true → e.on ≠ i := fun e he hb heq => by
        have h1 := hall e he hb
        have h0 := (mem_ready.1 hr).1
        rw [heq] at h1
        rcases Nat.lt_or_ge i listed.size with h' | h'
        · simp [h'] at h0 h1; rw [h0] at h1; cases h1
        · simp [Array.getElem?_eq_none h'] at h1
      have hjf : j ≠ f := by
        rintro rfl
        unfold Waits at hw
        rw [hoj] at hw
        obtain ⟨e, he, hb⟩ := Array.any_eq_true'.1 hw
        rw [Bool.and_eq_true, beq_iff_eq] at hb
        exact hnot e he hb.1 hb.2
      have h2 := wpOp_putIf hoj (hfree j oj hoj hji hjun hnot) (fun cs b => hsel i oi cs b hi) (fun cs b => hsel j oj cs b hoj) hQ hy h1
      have hfree' : ∀ k ok, ops[k]? = some ok → k ≠ i → (listed.setIfInBounds j true).getD k true = false →
          (∀ e ∈ ok.after, Region.binds md e = true → e.on ≠ i) → oi.apart ops ok = true := fun k ok hk hki hun hno => by
        refine hfree k ok hk hki ?_ hno
        by_cases hjk : j = k
        · subst hjk; exact hjun
        · rw [getD_set_ne true hjk] at hun; exact hun
      refine wpOp_mono (fun a' w' h3 => ⟨fun _ => h3.2.1 hjf, ih (listed.setIfInBounds j true) a' w' hfree' (ready_mono hr (Ne.symm hji)) h3.1 (h3.2.1 hjf) ?_⟩) h2
      rw [Array.setIfInBounds_comm _ _ hji]
      exact h3.2.2
theorem wpAnyU_take {i : Nat} {oi : Oper} {v : Value} {n : Nat} {listed : Array Bool} {a : Act} {w : World} (hi : ops[i]? = some oi)
    (hs : Region.noSelect ops = true) (hf : Region.free md ops listed i = true) (hr : (Region.ready md ops listed).contains i = true) (hw : Waits md ops f i = true)
    (hQ : ∀ c a w, Q (.panic c) (a.put oi.dst v) w → Q (.panic c) a w) (hy : YieldsIf P ops S oi v a) (hS : S w)
    (h : wpAnyU P md ops Q S f n (listed.setIfInBounds i true) (a.put oi.dst v) w) : wpAnyU P md ops Q S f (n + 1) listed a w :=
  wpAnyU_first hi (Region.noSelect_spec hs) hQ hw n listed a w (Region.free_spec hi hf) (by simpa using hr) hy hS h
/-- One operation alone may come up. -/
theorem wpAnyU_ready {i : Nat} {o : Oper} {n : Nat} {listed : Array Bool} {a : Act} {w : World} (hr : Region.ready md ops listed = [i]) (ho : ops[i]? = some o) (hif : i ≠ f)
    (h : ∀ K' : Act → World → Prop, Shut (∀ a w, S w → (S w → wpAnyU P md ops Q S f n (listed.setIfInBounds i true) a w) → K' a w) → if Region.wanted o (yielded ops a.tmps) = true then Oper.wp P o a w K' Q else K' (a.put o.dst undef) w) : wpAnyU P md ops Q S f (n + 1) listed a w :=
  ⟨(fun e => by rw [hr] at e; cases e), fun j hj => by
    rw [hr, List.mem_singleton] at hj
    subst hj
    exact wpOp_step ho (fun K' hK => h K' (fun a w hS hW => hK a w ⟨fun _ => hS, hW hS⟩))⟩
/-- f itself. -/
theorem wpAnyU_last {o : Oper} {n : Nat} {listed : Array Bool} {a : Act} {w : World} (hr : Region.ready md ops listed = [f]) (ho : ops[f]? = some o)
    (h : ∀ K' : Act → World → Prop, Shut (∀ a w, wpAnyU P md ops Q S f n (listed.setIfInBounds f true) a w → K' a w) → if Region.wanted o (yielded ops a.tmps) = true then Oper.wp P o a w K' Q else K' (a.put o.dst undef) w) : wpAnyU P md ops Q S f (n + 1) listed a w :=
  ⟨(fun e => by rw [hr] at e; cases e), fun j hj => by
    rw [hr, List.mem_singleton] at hj
    subst hj
    exact wpOp_step ho (fun K' hK => h K' (fun a w hW => hK a w ⟨fun e => (e rfl).elim, hW⟩))⟩
theorem wpAnyU_done {listed : Array Bool} {a : Act} {w : World} (hr : Region.ready md ops listed = []) (h : Q .normal a w) : ∀ n, wpAnyU P md ops Q S f n listed a w
  | 0 => ⟨hr, h⟩
  | _ + 1 => ⟨fun _ => h, (fun i hi => by rw [hr] at hi; cases hi)⟩
theorem wp_region_heldU {id : Nat} {a : Act} {w : World} (S : World → Prop) (f : Nat) (hm : P.follows .mixedOrders = true) (hS : S w.drew)
    (h : S w.drew → wpAnyU P .any ops Q S f ops.size (Array.replicate ops.size false) a w.drew) : (Code.region id ops true).wp P Q a w :=
  wp_region_any hm (wpAny_of_U _ _ _ _ (h hS))
end Go.Proofs.YtclkgflficlmiaaDoor
end
