/- The frame of a law's row: a call that returns true and turns nothing that was there leaves every argument reading as it did. -/
import Derived.WalkKit
import Derived.ProofKit
import Derived.OpenShut
import Derived.Handed
import Derived.Carry
import Derived.Test.YtjlkakggmfmfiaaWords
namespace Go.Proofs.Ytjlkakggmfmfiaa
open Go Go.ChangeShapes Go.WideShapes Go.ChangeAt Go.RowKit
section
variable {H : Type} {enc : TypeId × Value → H} {P : Program}
theorem trodAll_lt : ∀ {ts : List TypeId} {vs : List Value} {ds : List (DataW H)} {ps : List MemPlace} {W : World} {sp : Nat → Bool} {hd : Bool},
    DataW.TrodAll enc P W 0 sp hd ts vs ds ps → ∀ x ∈ ps, x.block < W.heap.size
  | [], vs, ds, ps, W, sp, hd, h => by
    obtain ⟨_, _, rfl⟩ := trodAll_nil h
    intro x hx; cases hx
  | t :: ts, vs, ds, ps, W, sp, hd, h => by
    obtain ⟨v, vs', d, ds', p, q, rfl, rfl, rfl, h1, h2⟩ := trodAll_cons h
    intro x hx
    rcases List.mem_append.1 hx with hx | hx
    · obtain ⟨m, hm⟩ := h1
      exact DataW.trod_lt m _ _ _ hm x hx
    · exact trodAll_lt h2 x hx
theorem trodAll_stays (hl : laidOutB P = true) {W W' : World} (hb : Below W.heap.size W W') : ∀ {ts : List TypeId} {vs : List Value} {ds : List (DataW H)} {ps : List MemPlace},
    (ts.all fun t => P.readableRec t && decide (t < P.types.size)) = true →
    DataW.TrodAll enc P W 0 (fun _ => true) true ts vs ds ps → (∀ x ∈ ps, x.block < W.heap.size) → DataW.TrodAll enc P W' 0 (fun b => decide (b < W.heap.size)) true ts vs ds ps
  | [], vs, ds, ps, _, h, _ => by
    obtain ⟨rfl, rfl, rfl⟩ := trodAll_nil h
    exact trodAll_mk0
  | t :: ts, vs, ds, ps, hr, h, hlt => by
    obtain ⟨v, vs', d, ds', p, q, rfl, rfl, rfl, h1, h2⟩ := trodAll_cons h
    simp only [List.all_cons, Bool.and_eq_true, decide_eq_true_eq] at hr
    exact trodAll_cons_mk (Below.trod hl hr.1.1 hr.1.2 h1 hb (fun x hx => hlt x (List.mem_append_left _ hx))) (trodAll_stays hl hb hr.2 h2 (fun x hx => hlt x (List.mem_append_right _ hx)))
theorem trodAll_length : ∀ {ts : List TypeId} {vs : List Value} {ds : List (DataW H)} {ps : List MemPlace} {W : World} {sp : Nat → Bool} {hd : Bool} {b : Nat},
    DataW.TrodAll enc P W b sp hd ts vs ds ps → ds.length = ts.length
  | [], vs, ds, ps, W, sp, hd, b, h => by
    obtain ⟨_, rfl, _⟩ := trodAll_nil h
    rfl
  | t :: ts, vs, ds, ps, W, sp, hd, b, h => by
    obtain ⟨v, vs', d, ds', p, q, rfl, rfl, rfl, h1, h2⟩ := trodAll_cons h
    simp [trodAll_length h2]
/-- THE POST of a law's row. -/
theorem law_post {f : Func} {s : ChangeSpec} {W W' : World} {args : Array Value} {ds gs : List (DataW H)} {before : List MemPlace} {tb : TypeId}
    (hl : laidOutB P = true) (hr : (f.params.toList.all fun t => P.readableRec t && decide (t < P.types.size)) = true) (hb : P.underlying tb = some .bool) (hres : f.resultTypes = #[tb]) (hs : s.vars = [])
    (hfun : ∀ ds : List (DataW H), ds.length = f.params.toList.length → s.fn H (ds ++ []) = { results := [.lit (.bool true)], args := ds })
    (hW : DataW.Whole enc P f.params.toList s.vars false W args.toList ds gs before) (bel : Below W.heap.size W W') :
    s.post enc P f false true false false W args (.bool true) W' := by
  have hW' := hW
  obtain ⟨p, q, hA, hV, rfl, hfz, hnd⟩ := hW
  rw [hs] at hV
  obtain ⟨rfl, rfl⟩ := trodVars_none hV
  have hlen := trodAll_length hA
  have hlt := trodAll_lt hA
  have hfn := hfun ds hlen
  refine ⟨ds, [], _, [], p, [], hW', ?_, ?_, ?_, bel.frame _, fun h => by cases h⟩
  · rw [hfn, hres]
    exact trodAll_mk1 (shut_bool hb _)
  · rw [hfn]
    exact trodAll_stays hl bel hr hA hlt
  · rw [hs, hfn]
    rfl
/-- An array of whole numbers, off its cells. -/
theorem trod_nums {w : World} {base : Nat} {spare : Nat → Bool} {held : Bool} {t e : TypeId} {n fuel : Nat} {k : IntKind} {cs : List Value} {x : DataW H × List MemPlace} (ht : P.underlying t = some (.array n e)) (he : P.underlying e = some (.int k)) (hc : P.cellsOf e = 1) (hct : P.cellsOf t = n)
    (h : DataW.trod enc P w base spare held fuel t cs = some x) : ∃ ns : List Int, ns.length = n ∧ cs = nums k ns ∧ ∀ y ∈ ns, (Lit.int k y).wf = true := by
  obtain ⟨xs, m, _, _, hcl, hxl, hx⟩ := DataW.trod_array ht h
  rw [hct] at hcl
  rw [hc] at hx
  have key : ∀ i (hi : i < cs.length), ∃ y, cs[i] = .int k y ∧ (Lit.int k y).wf = true := by
    intro i hi
    have h1 := hx i (by omega)
    rw [Nat.mul_one, List.drop_eq_getElem_cons hi, List.take_succ_cons, List.take_zero] at h1
    have h2 : xs[i]? = some (xs[i]'(by omega)) := List.getElem?_eq_getElem (by omega)
    rw [h2] at h1
    obtain ⟨y, h3, _, h4⟩ := DataW.trod_int he h1
    exact ⟨y, by simpa using h3, h4⟩
  refine ⟨cs.map (fun v => match v with | .int _ y => y | _ => 0), by rw [List.length_map, hcl], ?_, ?_⟩
  · apply List.ext_getElem
    · simp [nums]
    · intro i h1 h2
      obtain ⟨y, hy, _⟩ := key i h1
      simp [nums, hy]
  · intro y hy
    simp only [List.mem_map] at hy
    obtain ⟨v, hv, rfl⟩ := hy
    obtain ⟨i, hi, rfl⟩ := List.mem_iff_getElem.1 hv
    obtain ⟨y, hy, hw⟩ := key i hi
    rw [hy]; exact hw
theorem bytes_of_wf {ns : List Int} (h : ∀ y ∈ ns, (Lit.int .u8 y).wf = true) : Bytes ns := by
  intro y hy
  have := h y hy
  simp [Lit.wf, IntKind.min, IntKind.max, IntKind.signed, IntKind.bits] at this
  omega
/-- A digest that came in. -/
theorem open_hash {W : World} {base : Nat} {t e : TypeId} {v : Value} {d : DataW H} {ps : List MemPlace} (ht : P.underlying t = some (.array 32 e)) (he : P.underlying e = some (.int .u8)) (hc : P.cellsOf e = 1) (hct : P.cellsOf t = 32)
    (hv : Value.okWide P W .any base t v) (h : DataW.Trod enc P W 0 (fun _ => true) true t v d ps) : ∃ ns : List Int, ns.length = 32 ∧ Bytes ns ∧ v = .agg (nums .u8 ns).toArray := by
  simp only [Value.okWide, ht] at hv
  obtain ⟨cs, rfl, _, _⟩ := hv
  obtain ⟨fuel, hf⟩ := h
  obtain ⟨ns, h1, h2, h3⟩ := trod_nums ht he hc hct hf
  refine ⟨ns, h1, bytes_of_wf h3, ?_⟩
  simp only [Value.cells] at h2
  rw [← h2]
end
end Go.Proofs.Ytjlkakggmfmfiaa
