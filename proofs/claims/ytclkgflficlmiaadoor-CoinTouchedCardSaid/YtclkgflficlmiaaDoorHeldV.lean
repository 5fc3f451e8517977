/- A drawn region in which one operation (f, which waits for all that loads what it stores) may undo what is held, and others follow it: S is asked as long as f has not been. -/
import Derived.Test.YtclkgflficlmiaaDoorHeldW
set_option maxRecDepth 100000
namespace Go.Proofs.YtclkgflficlmiaaDoor
open Go Go.RowKit
variable {P : Program} {ops : Array Oper} {Q : Exit → Act → World → Prop} {md : Region.Mode} {S : World → Prop} {f : Nat}
def wpAnyV (P : Program) (md : Region.Mode) (ops : Array Oper) (Q : Exit → Act → World → Prop) (S : World → Prop) (f : Nat) : Nat → Array Bool → Act → World → Prop
  | 0, listed, a, w => Region.ready md ops listed = [] ∧ Q .normal a w
  | n + 1, listed, a, w => (Region.ready md ops listed = [] → Q .normal a w) ∧
    ∀ i ∈ Region.ready md ops listed, wpOp P ops Q i (fun a' w' => ((listed.setIfInBounds i true).getD f true = false → S w') ∧ wpAnyV P md ops Q S f n (listed.setIfInBounds i true) a' w') a w
theorem wpAny_of_V : ∀ (n : Nat) (listed : Array Bool) (a : Act) (w : World), wpAnyV P md ops Q S f n listed a w → wpAny P md ops Q n listed a w
  | 0, _, _, _, h => h
  | n + 1, _, _, _, h => ⟨h.1, fun i hi => wpOp_mono (fun a' w' h' => wpAny_of_V n _ a' w' h'.2) (h.2 i hi)⟩
theorem wpAnyV_first {i : Nat} {oi : Oper} {v : Value} (hi : ops[i]? = some oi) (hsel : ∀ (j : Nat) (o : Oper) cs b, ops[j]? = some o → o.op ≠ .select cs b)
    (hQ : ∀ c a w, Q (.panic c) (a.put oi.dst v) w → Q (.panic c) a w) (hw : Waits md ops f i = true) (hif : i ≠ f) :
    ∀ (n : Nat) (listed : Array Bool) (a : Act) (w : World),
      (∀ j oj, ops[j]? = some oj → j ≠ i → listed.getD j true = false → (∀ e ∈ oj.after, Region.binds md e = true → e.on ≠ i) → oi.apart ops oj = true) →
      i ∈ Region.ready md ops listed → YieldsIf P ops S oi v a → S w → listed.getD f true = false →
      wpAnyV P md ops Q S f n (listed.setIfInBounds i true) (a.put oi.dst v) w → wpAnyV P md ops Q S f (n + 1) listed a w := by
  intro n
  induction n with
  | zero =>
    intro listed a w _ hr hy hS hf H
    refine ⟨fun h => (by rw [h] at hr; cases hr), fun j hj => ?_⟩
    by_cases hji : j = i
    · subst hji; exact hy.wpOp hi hS ⟨fun _ => hS, H⟩
    · have := ready_mono hj hji
      rw [H.1] at this
      cases this
  | succ n ih =>
    intro listed a w hfree hr hy hS hf H
    refine ⟨fun h => (by rw [h] at hr; cases hr), fun j hj => ?_⟩
    by_cases hji : j = i
    · subst hji; exact hy.wpOp hi hS ⟨fun _ => hS, H⟩
    · have h1 := H.2 j (ready_mono hj hji)
      obtain ⟨hjun, oj, hoj, hall⟩ := mem_ready.1 hj
      have hnot : ∀ e ∈ oj.after, Region.binds md e = true → e.on ≠ i := fun e he hb heq => by
        have h1 := hall e he hb
        have h0 := (mem_ready.1 hr).1
        rw [heq] at h1
        rcases Nat.lt_or_ge i listed.size with h' | h'
        · simp [h'] at h0 h1; rw [h0] at h1; cases h1
        · simp [Array.getElem?_eq_none h'] at h1
      have hjf : j ≠ f := by
        rintro rfl
        unfold Waits at hw
        rw [hoj] at hw
        obtain ⟨e, he, hb⟩ := Array.any_eq_true'.1 hw
        rw [Bool.and_eq_true, beq_iff_eq] at hb
        exact hnot e he hb.1 hb.2
      have h2 := wpOp_putIf hoj (hfree j oj hoj hji hjun hnot) (fun cs b => hsel i oi cs b hi) (fun cs b => hsel j oj cs b hoj) hQ hy h1
      have hfree' : ∀ k ok, ops[k]? = some ok → k ≠ i → (listed.setIfInBounds j true).getD k true = false →
          (∀ e ∈ ok.after, Region.binds md e = true → e.on ≠ i) → oi.apart ops ok = true := fun k ok hk hki hun hno => by
        refine hfree k ok hk hki ?_ hno
        by_cases hjk : j = k
        · subst hjk; exact hjun
        · rw [getD_set_ne true hjk] at hun; exact hun
      have hfj : (listed.setIfInBounds j true).getD f true = false := by rw [getD_set_ne true hjf]; exact hf
      have hfij : ((listed.setIfInBounds i true).setIfInBounds j true).getD f true = false := by rw [getD_set_ne true hjf, getD_set_ne true hif]; exact hf
      refine wpOp_mono (fun a' w' h3 => ⟨fun _ => h3.2.1 hfij, ih (listed.setIfInBounds j true) a' w' hfree' (ready_mono hr (Ne.symm hji)) h3.1 (h3.2.1 hfij) hfj ?_⟩) h2
      rw [Array.setIfInBounds_comm _ _ hji]
      exact h3.2.2
theorem wpAnyV_take {i : Nat} {oi : Oper} {v : Value} {n : Nat} {listed : Array Bool} {a : Act} {w : World} (hi : ops[i]? = some oi)
    (hs : Region.noSelect ops = true) (hf : Region.free md ops listed i = true) (hr : (Region.ready md ops listed).contains i = true) (hw : (Waits md ops f i && (i != f) && (listed.getD f true == false)) = true)
    (hQ : ∀ c a w, Q (.panic c) (a.put oi.dst v) w → Q (.panic c) a w) (hy : YieldsIf P ops S oi v a) (hS : S w)
    (h : wpAnyV P md ops Q S f n (listed.setIfInBounds i true) (a.put oi.dst v) w) : wpAnyV P md ops Q S f (n + 1) listed a w := by
  simp only [Bool.and_eq_true, bne_iff_ne, beq_iff_eq] at hw
  exact wpAnyV_first hi (Region.noSelect_spec hs) hQ hw.1.1 hw.1.2 n listed a w (Region.free_spec hi hf) (by simpa using hr) hy hS hw.2 h
/-- An operation that reads no memory: f need not wait for it. -/
theorem wpAnyV_firstP {i : Nat} {oi : Oper} {v : Value} (hi : ops[i]? = some oi) (hsel : ∀ (j : Nat) (o : Oper) cs b, ops[j]? = some o → o.op ≠ .select cs b)
    (hQ : ∀ c a w, Q (.panic c) (a.put oi.dst v) w → Q (.panic c) a w) (hif : i ≠ f) :
    ∀ (n : Nat) (listed : Array Bool) (a : Act) (w : World),
      (∀ j oj, ops[j]? = some oj → j ≠ i → listed.getD j true = false → (∀ e ∈ oj.after, Region.binds md e = true → e.on ≠ i) → oi.apart ops oj = true) →
      i ∈ Region.ready md ops listed → YieldsIf P ops (fun _ => True) oi v a → (listed.getD f true = false → S w) →
      wpAnyV P md ops Q S f n (listed.setIfInBounds i true) (a.put oi.dst v) w → wpAnyV P md ops Q S f (n + 1) listed a w := by
  intro n
  induction n with
  | zero =>
    intro listed a w _ hr hy hS H
    refine ⟨fun h => (by rw [h] at hr; cases hr), fun j hj => ?_⟩
    by_cases hji : j = i
    · subst hji; exact hy.wpOp hi trivial ⟨fun e => hS (by rwa [getD_set_ne true hif] at e), H⟩
    · have := ready_mono hj hji
      rw [H.1] at this
      cases this
  | succ n ih =>
    intro listed a w hfree hr hy hS H
    refine ⟨fun h => (by rw [h] at hr; cases hr), fun j hj => ?_⟩
    by_cases hji : j = i
    · subst hji; exact hy.wpOp hi trivial ⟨fun e => hS (by rwa [getD_set_ne true hif] at e), H⟩
    · have h1 := H.2 j (ready_mono hj hji)
      obtain ⟨hjun, oj, hoj, hall⟩ := mem_ready.1 hj
      have hnot : ∀ e ∈ oj.after, Region.binds md e = true → e.on ≠ i := fun e he hb heq => by
        have h1 := hall e he hb
        have h0 := (mem_ready.1 hr).1
        rw [heq] at h1
        rcases Nat.lt_or_ge i listed.size with h' | h'
        · simp [h'] at h0 h1; rw [h0] at h1; cases h1
        · simp [Array.getElem?_eq_none h'] at h1
      have h2 := wpOp_putIf (S := fun _ => True) hoj (hfree j oj hoj hji hjun hnot) (fun cs b => hsel i oi cs b hi) (fun cs b => hsel j oj cs b hoj) hQ hy h1
      have hfree' : ∀ k ok, ops[k]? = some ok → k ≠ i → (listed.setIfInBounds j true).getD k true = false →
          (∀ e ∈ ok.after, Region.binds md e = true → e.on ≠ i) → oi.apart ops ok = true := fun k ok hk hki hun hno => by
        refine hfree k ok hk hki ?_ hno
        by_cases hjk : j = k
        · subst hjk; exact hjun
        · rw [getD_set_ne true hjk] at hun; exact hun
      refine wpOp_mono (fun a' w' h3 => ⟨fun e => h3.2.1 (by rw [Array.setIfInBounds_comm _ _ (Ne.symm hji), getD_set_ne true hif]; exact e), ih (listed.setIfInBounds j true) a' w' hfree' (ready_mono hr (Ne.symm hji)) h3.1 (fun e => h3.2.1 (by rw [Array.setIfInBounds_comm _ _ (Ne.symm hji), getD_set_ne true hif]; exact e)) ?_⟩) h2
      rw [Array.setIfInBounds_comm _ _ hji]
      exact h3.2.2
theorem wpAnyV_pure {i : Nat} {oi : Oper} {v : Value} {n : Nat} {listed : Array Bool} {a : Act} {w : World} (hi : ops[i]? = some oi)
    (hs : Region.noSelect ops = true) (hf : Region.free md ops listed i = true) (hr : (Region.ready md ops listed).contains i = true) (hif : (i != f) = true)
    (hQ : ∀ c a w, Q (.panic c) (a.put oi.dst v) w → Q (.panic c) a w) (hy : YieldsIf P ops (fun _ => True) oi v a) (hS : S w)
    (h : wpAnyV P md ops Q S f n (listed.setIfInBounds i true) (a.put oi.dst v) w) : wpAnyV P md ops Q S f (n + 1) listed a w :=
  wpAnyV_firstP hi (Region.noSelect_spec hs) hQ (bne_iff_ne.1 hif) n listed a w (Region.free_spec hi hf) (by simpa using hr) hy (fun _ => hS) h
/-- One operation alone may come up, ahead of f. -/
theorem wpAnyV_ready {i : Nat} {o : Oper} {n : Nat} {listed : Array Bool} {a : Act} {w : World} (hr : Region.ready md ops listed = [i]) (ho : ops[i]? = some o) (hif : i ≠ f)
    (h : ∀ K' : Act → World → Prop, Shut (∀ a w, S w → (S w → wpAnyV P md ops Q S f n (listed.setIfInBounds i true) a w) → K' a w) → if Region.wanted o (yielded ops a.tmps) = true then Oper.wp P o a w K' Q else K' (a.put o.dst undef) w) : wpAnyV P md ops Q S f (n + 1) listed a w :=
  ⟨(fun e => by rw [hr] at e; cases e), fun j hj => by
    rw [hr, List.mem_singleton] at hj
    subst hj
    exact wpOp_step ho (fun K' hK => h K' (fun a w hS hW => hK a w ⟨fun _ => hS, hW hS⟩))⟩
/-- f itself, or one behind it. -/
theorem wpAnyV_last {i : Nat} {o : Oper} {n : Nat} {listed : Array Bool} {a : Act} {w : World} (hr : Region.ready md ops listed = [i]) (ho : ops[i]? = some o) (hfl : (listed.setIfInBounds i true).getD f true = true)
    (h : ∀ K' : Act → World → Prop, Shut (∀ a w, wpAnyV P md ops Q S f n (listed.setIfInBounds i true) a w → K' a w) → if Region.wanted o (yielded ops a.tmps) = true then Oper.wp P o a w K' Q else K' (a.put o.dst undef) w) : wpAnyV P md ops Q S f (n + 1) listed a w :=
  ⟨(fun e => by rw [hr] at e; cases e), fun j hj => by
    rw [hr, List.mem_singleton] at hj
    subst hj
    exact wpOp_step ho (fun K' hK => h K' (fun a w hW => hK a w ⟨(fun e => by rw [hfl] at e; cases e), hW⟩))⟩
theorem wpAnyV_done {listed : Array Bool} {a : Act} {w : World} (hr : Region.ready md ops listed = []) (h : Q .normal a w) : ∀ n, wpAnyV P md ops Q S f n listed a w
  | 0 => ⟨hr, h⟩
  | _ + 1 => ⟨fun _ => h, (fun i hi => by rw [hr] at hi; cases hi)⟩
theorem wp_region_heldV {id : Nat} {a : Act} {w : World} (S : World → Prop) (f : Nat) (hm : P.follows .mixedOrders = true) (hS : S w.drew)
    (h : S w.drew → wpAnyV P .any ops Q S f ops.size (Array.replicate ops.size false) a w.drew) : (Code.region id ops true).wp P Q a w :=
  wp_region_any hm (wpAny_of_V _ _ _ _ (h hS))
/-- A slice literal of one element of many cells, in a drawn region. -/
theorem step_build1 {w : World} {o : Oper} {a : Act} {K : Act → World → Prop} {E : Prop} (hw : Region.wanted o (yielded ops a.tmps) = true) (t e : TypeId) (parts : Array (Nat × Operand)) (ho : o.op = .buildSlice t 1 parts)
    (ht : P.underlying t = some (.slice e)) (z : Value) (s bytes : Nat) (hinfo : (P.info? e).map (fun i => (i.zero, i.size, i.bytes)) = some (some z, s, bytes)) (hs : 0 < s) (hs1 : s ≤ 1000)
    (cells : List Value) (hcl : cells.length = s) (hz : z.cells.size = s) (hp : parts.toList.map (fun y => (y.1, a.eval y.2)) = [(0, .agg cells.toArray)])
    (h : K (a.put o.dst (.slice (some ⟨w.heap.size, 0, none⟩) 1 1)) (w.alloc (.cells cells.toArray e))) : if Region.wanted o (yielded ops a.tmps) = true then Oper.wp P o a w K Q else E := by
  obtain ⟨i, hi, hzz, hsize, hby⟩ : ∃ i, P.info? e = some i ∧ i.zero = some z ∧ i.size = s ∧ i.bytes = bytes := by
    cases h : P.info? e with
    | none => rw [h] at hinfo; cases hinfo
    | some i => rw [h] at hinfo; simp only [Option.map_some, Option.some.injEq, Prod.mk.injEq] at hinfo; exact ⟨i, rfl, hinfo.1, hinfo.2.1, hinfo.2.2⟩
  rw [if_pos hw]
  refine wp_buildSlice t e 1 parts ho cells.toArray i z ht hi hzz (by rw [hsize]; omega) (by rw [hsize]; omega) ?_ h
  rw [Array.toList_map]
  have hp' : List.map (fun x => match x with | (i, x) => (i, a.eval x)) parts.toList = [(0, .agg cells.toArray)] := hp
  rw [hp', hsize]
  have := Great.fill_whole hs [Value.agg cells.toArray] ((Array.range (1 * s)).map (z.cells[· % z.cells.size]!)) (fun v hv => by rw [List.mem_singleton.1 hv]; simp [Value.cells, hcl]) (by simp)
  simpa [Value.cells] using this
end Go.Proofs.YtclkgflficlmiaaDoor
