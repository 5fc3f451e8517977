/- Further laws on any program: a row read in a quiet region, bytes copied into a block, a global's block. -/
import Derived.Test.YtjlkakggmfmfiaaWords
import Derived.BigQuiet
import Derived.Test.YtjlkakggmfmfiaaFrame
import Derived.Laws.CopyRow
import Derived.Laws.IdiomCopy
import Derived.Shelf.Spec.SlicesInsert
set_option linter.unusedVariables false
namespace Go.Proofs.Ytjlkakggmfmfiaa
open Go Go.RowKit
section
variable {P : Program}
theorem wpQuiet_load_row {ops : Array Oper} {rest : List Oper} {o : Oper} {a : Act} {w : World} {Q : Act → Prop} (hgd : o.guard = none) (ty : TypeId) (x : Operand) (ho : o.op = .load ty x)
    (g : Nat) (hx : a.eval x = .pointer (some ⟨g, 0, none⟩)) (t : TypeId) (cs : Array Value) (fr : Nat × Nat) (d : TypeDesc) (hg : w.heap[g]? = some (.cells cs t fr))
    (hu : P.underlying ty = some d) (hd : (match d with | .struct _ | .array _ _ => true | _ => false) = true) (hi : (P.info? ty).map (·.size) = some cs.size)
    (h : wpQuiet P ops (fun w' => ∃ n, w' = w.drewN n) Q rest (a.put o.dst (.agg cs))) : wpQuiet P ops (fun w' => ∃ n, w' = w.drewN n) Q (o :: rest) a :=
  BigFrame.wpQuiet_want (by simp [Region.wanted, hgd]) fun K hK => ⟨_, fun W hW => by
    obtain ⟨n, rfl⟩ := hW
    unfold Oper.quietAt execOp
    simp only [ho, hx, Instr.loadAt, Instr.sureAddr, Sem.run_bind, Sem.run_pure, Result.andThen_ok, run_loadVar_row (w.drewN n) g t ty cs fr d hg hu hd hi]
    exact ⟨rfl, rfl⟩, hK _ h⟩
theorem run_copy_rd (w : World) (dT sT ty elem : TypeId) (g dLen dCap : Nat) (k : IntKind) (A : Option Addr) (sLen sCap : Nat) (cur : List Int) (t : TypeId) (xs : List Int)
    (hu : P.underlying dT = some (.slice elem)) (hs : (P.info? elem).map (·.size) = some 1)
    (hg : w.heap[g]? = some (.cells (nums k cur).toArray t (0, 0))) (hr : Rd w A sLen (nums k xs)) (hn : sLen ≤ dLen) (hfit : sLen ≤ cur.length) :
    ∃ w', (Builtin.copy_ #[dT, sT] ty #[.slice (some ⟨g, 0, none⟩) dLen dCap, .slice A sLen sCap]).run P w = .ok (.int .i64 sLen) w' ∧
      w'.heap[g]? = some (.cells (nums k (xs ++ cur.drop sLen)).toArray t (0, 0)) ∧ Turned w g w' := by
  have hl : xs.length = sLen := by have := hr.1; rwa [nums_length] at this
  rcases Nat.eq_zero_or_pos sLen with h0 | h0
  · subst h0
    obtain rfl : xs = [] := List.eq_nil_of_length_eq_zero hl
    exact ⟨w, run_copy_none w dT sT ty elem _ _ _ _ _ _ hu hs (Nat.zero_min _), by simpa using hg, ⟨rfl, rfl, rfl, rfl, fun _ _ => rfl⟩⟩
  · obtain ⟨b, o, rfl, hc⟩ := hr.2 h0
    have hm : (nums k xs).length = Nat.min sLen dLen := by rw [hr.1]; exact (Nat.min_eq_left hn).symm
    have := run_copy_row (P := P) w dT sT ty elem g 0 dLen dCap ⟨b, o, none⟩ sLen sCap (nums k cur).toArray t (nums k xs) hu hs hg hm
      (fun j v hv => by rw [add_plain']; exact hc j v hv) (by rw [nums_length, nums_size, Nat.zero_add, hl]; exact hfit) (nums_one k xs)
    have e : (List.take 0 (nums k cur).toArray.toList ++ nums k xs ++ List.drop (0 + (nums k xs).length) (nums k cur).toArray.toList).toArray = (nums k (xs ++ cur.drop sLen)).toArray := by
      simp only [nums_length, List.take_zero, List.nil_append, Nat.zero_add, hl, nums_drop, nums_append]
    rw [e, hr.1] at this
    exact ⟨w.setRow g (nums k (xs ++ cur.drop sLen)).toArray, this, setRow_heap _ _ _ _ _ _ hg, turned_setRow w g _⟩
end
section
variable {P : Program} {H : Type} {enc : TypeId × Value → H}
/-- A variable that was laid: its block. -/
theorem var_block {w : World} {name : String} {g : Nat} {cs : Array Value} (hg : P.globalNamed name = some g) (h : w.var? P name = some cs) : ∃ t fz, w.heap[g]? = some (.cells cs t fz) := by
  unfold World.var? at h
  rw [hg] at h
  simp only [Option.bind_some] at h
  split at h
  · rename_i c t f hh
    obtain rfl := Option.some.inj h
    exact ⟨t, f, hh⟩
  · cases h
/-- An array of whole numbers, off its cells, with what it says. -/
theorem trod_nums_val {w : World} {base : Nat} {spare : Nat → Bool} {held : Bool} {t e : TypeId} {n fuel : Nat} {k : IntKind} {cs : List Value} {ys : List Int} {p : List MemPlace} (ht : P.underlying t = some (.array n e)) (he : P.underlying e = some (.int k)) (hc : P.cellsOf e = 1) (hct : P.cellsOf t = n)
    (hy : ys.length = n) (h : DataW.trod enc P w base spare held fuel t cs = some (.agg (ys.map fun y => .lit (.int k y)), p)) : cs = nums k ys := by
  obtain ⟨xs, m, _, hx1, hcl, hxl, hx⟩ := DataW.trod_array ht h
  rw [hct] at hcl
  rw [hc] at hx
  simp only [Prod.mk.injEq, DataW.agg.injEq] at hx1
  apply List.ext_getElem
  · rw [nums_length, hcl, hy]
  · intro i h1 h2
    have h3 := hx i (by omega)
    rw [Nat.mul_one, List.drop_eq_getElem_cons h1, List.take_succ_cons, List.take_zero] at h3
    have hxi : i < xs.length := by omega
    rw [List.getElem?_eq_getElem hxi] at h3
    obtain ⟨y, h4, h5, _⟩ := DataW.trod_int he h3
    have h6 := congrArg (fun l => l[i]?) hx1.1
    simp only [List.getElem?_map, List.getElem?_eq_getElem hxi, List.getElem?_eq_getElem (show i < ys.length by omega), Option.map_some, Option.some.injEq] at h6
    rw [h5] at h6
    simp only [DataW.lit.injEq, Lit.int.injEq] at h6
    have h7 : cs[i] = .int k y := by simpa using h4
    rw [h7]
    simp only [nums, List.getElem_map]
    rw [h6.2]
end
/-- A row that is made with these values. -/
theorem own_new {w : World} {base : Nat} {e : TypeId} (xs : List Value) (hb : base ≤ w.heap.size) (hm : xs.length ≤ maxLen) :
    (w.alloc (.cells xs.toArray e)).ownsRow base e 1 (.slice (some ⟨w.heap.size, 0, none⟩) xs.length xs.length) xs.length xs :=
  ⟨(Nat.mul_one _).symm, .inr ⟨w.heap.size, xs.length, xs.toArray, rfl, hb, heap_alloc_new _ _, Nat.le_refl _, hm, by simp, by simp⟩⟩
theorem below_grown {w w' : World} {o : Obj} (h : (w.alloc o).grownBy w' (some w.heap.size)) : Below w.heap.size w w' :=
  ((Below.refl _ _).alloc (Nat.le_refl _) _).grown h (by simp) (fun j hj => by obtain rfl := Option.some.inj hj; exact Nat.le_refl _)
/-- A world written out is made a variable, of which q is known. -/
theorem wp_gen {P : Program} {c : Code} {Q : Exit → Act → World → Prop} {a : Act} {w0 : World} {q : World → Prop} (h : q w0) (k : ∀ w, q w → c.wp P Q a w) : c.wp P Q a w0 := k w0 h
end Go.Proofs.Ytjlkakggmfmfiaa
