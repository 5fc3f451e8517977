/- Laws on any program that several layers use: a slice of bytes cut, cells in the midst of a block, empty rows, stores and copies in a drawn region. -/
import Derived.Test.YtjlkakggmfmfiaaNumPure
import Derived.Test.YtjlkakggmfmfiaaAppN
import Derived.Test.YtjlkakggmfmfiaaKinds
import Derived.Test.YtjlkakggmfmfiaaOwnK
import Derived.Test.YtjlkakggmfmfiaaMore
import Derived.Test.YtjlkakggmfmfiaaChecked
import Derived.Laws.CopyRow
import Derived.Deep.RegionHeld3
import Derived.Great.BuildSlice
import Derived.KernelRfl
import Derived.BigQuiet
set_option maxRecDepth 100000
set_option linter.unusedVariables false
namespace Go.Proofs.Ytjlkakggmfmfiaa
open Go Go.RowKit
def zeros32 : List Int := List.replicate 32 0
theorem rd_cut (w : World) (A : Option Addr) (n c m : Nat) (xs : List Value) (h : Rd w A n xs) (hm : m ≤ n) (hc : n ≤ c) :
    Rd w (if c = m then A else Option.map (fun x => { block := x.block, off := x.off + m }) A) (n - m) (xs.drop m) := by
  rcases Nat.lt_or_ge m n with hl | hl
  · obtain ⟨b, o, rfl, _⟩ := h.2 (by omega)
    have := h.drop_ (c := c) m hm hc
    rw [if_neg (by omega), Option.map_some, add_plain'] at this
    rwa [if_neg (by omega)]
  · obtain rfl : m = n := by omega
    rw [List.drop_eq_nil_of_le (by rw [h.1]; exact Nat.le_refl _), Nat.sub_self]
    exact Rd.nil _ _
def lenV : Value → Nat
  | .slice _ n _ => n
  | _ => 0
theorem info_hash : (Try.prog.info? 23).map (·.size) = some 32 := by kernel_rfl
theorem info_u8 : (Try.prog.info? 5).map (·.size) = some 1 := by kernel_rfl
theorem info_u8' : ∃ i, Try.prog.info? 5 = some i ∧ i.size = 1 := by
  have h := info_u8
  cases hq : Try.prog.info? 5 with
  | none => rw [hq] at h; cases h
  | some i => exact ⟨i, rfl, by simpa [hq] using h⟩
theorem range_block {w : World} {g : Nat} {xs : List Value} {t : TypeId} {fz : Nat × Nat} (h : w.heap[g]? = some (.cells xs.toArray t fz)) : w.rangeAt g 0 xs := fun j v hv => by
  rw [Nat.zero_add]
  exact blk_cell h (by simpa using hv)
theorem range_below {w w1 : World} (hb : Below w.heap.size w w1) {b o : Nat} {cs : List Value} (h : w.rangeAt b o cs) : w1.rangeAt b o cs := fun j v hv => cell_below hb (h j v hv)
theorem range_grown {w w1 : World} {row : Option Nat} (hg : w.grownBy w1 row) {b o : Nat} {cs : List Value} (h : w.rangeAt b o cs) (hne : some b ≠ row) : w1.rangeAt b o cs := fun j v hv => by
  have h1 := h j v hv
  have hlt : b < w.heap.size := World.block_lt_of_cell? w _ h1
  exact (cell_move (hg.block b hlt hne)).trans h1
theorem own_empty {w : World} {base : Nat} (e : TypeId) (size : Nat) (hb : base ≤ w.heap.size) : (w.alloc (.cells #[] e)).ownsRow base e size (.slice (some ⟨w.heap.size, 0, none⟩) 0 0) 0 [] :=
  ⟨by simp, .inr ⟨w.heap.size, 0, #[], rfl, hb, heap_alloc_new _ _, Nat.le_refl _, Nat.zero_le _, by simp, by simp⟩⟩
namespace RK
theorem Own.empty {α : Type} (d : RK α) (S : Nat → Prop) {w : World} {base : Nat} (e : TypeId) (hb : base ≤ w.heap.size) : d.Own S (w.alloc (.cells #[] e)) base e (.slice (some ⟨w.heap.size, 0, none⟩) 0 0) 0 [] :=
  ⟨rfl, [], own_empty e d.sz hb, fun i x h => by simp at h⟩
theorem Own.mono_ {α : Type} {d : RK α} {S S' : Nat → Prop} {w : World} {base n : Nat} {e : TypeId} {v : Value} {xs : List α} (h : d.Own S w base e v n xs) (hS : ∀ k, S k → S' k) : d.Own S' w base e v n xs := by
  obtain ⟨h1, cells, h2, h3⟩ := h
  refine ⟨h1, cells, h2, fun i x hx => ?_⟩
  obtain ⟨cs, hK, hcs⟩ := h3 i x hx
  exact ⟨cs, d.mono hS hK, hcs⟩
end RK
section
variable {P : Program}
theorem wpQuiet_load_mid {ops : Array Oper} {rest : List Oper} {o : Oper} {a : Act} {w : World} {Q : Act → Prop} (hgd : o.guard = none) (ty : TypeId) (x : Operand) (ho : o.op = .load ty x)
    (b off : Nat) (hx : a.eval x = .pointer (some ⟨b, off, none⟩)) (cs : List Value) (d : TypeDesc) (hr : w.rangeAt b off cs)
    (hu : P.underlying ty = some d) (hd : d.isRow = true) (hi : (P.info? ty).map (·.size) = some cs.length)
    (h : wpQuiet P ops (fun w' => ∃ n, w' = w.drewN n) Q rest (a.put o.dst (.agg cs.toArray))) : wpQuiet P ops (fun w' => ∃ n, w' = w.drewN n) Q (o :: rest) a :=
  BigFrame.wpQuiet_want (by simp [Region.wanted, hgd]) fun K hK => ⟨_, fun W hW => by
    obtain ⟨n, rfl⟩ := hW
    unfold Oper.quietAt execOp
    have hr' : (w.drewN n).rangeAt b off cs := hr
    simp only [ho, hx, Instr.loadAt, Instr.sureAddr, Sem.run_bind, Sem.run_pure, Result.andThen_ok, run_loadVar_mid (w.drewN n) b off ty cs d hr' hu hd hi]
    exact ⟨rfl, rfl⟩, hK _ h⟩
end
section
variable {P : Program} {ops : Array Oper} {o : Oper} {a : Act} {K : Act → World → Prop} {Q : Exit → Act → World → Prop} {E : Prop} {w : World}
theorem step_store_any (hw : Region.wanted o (yielded ops a.tmps) = true) (ty : TypeId) (x y : Operand) (ho : o.op = .store ty x y)
    (g : Nat) (cells : Array Value) (hx : a.eval x = .pointer (some ⟨g, 0, none⟩)) (hy : a.eval y = .agg cells)
    (t : TypeId) (old : Array Value) (hg : w.heap[g]? = some (.cells old t (0, 0))) (hi : (P.info? ty).map (·.size) = some cells.size)
    (hold : old.size = cells.size) (h1 : cells.all (·.oneCell') = true)
    (h : ∀ w', w'.heap[g]? = some (.cells cells t (0, 0)) → Turned w g w' → K (a.put o.dst undef) w') : if Region.wanted o (yielded ops a.tmps) = true then Oper.wp P o a w K Q else E := by
  rw [if_pos hw]
  exact wp_store_row ty x y ho g cells hx hy t old hg hi hold h1 (h _ (setRow_heap w g old cells t _ hg) (turned_setRow w g cells))
theorem step_copy (hw : Region.wanted o (yielded ops a.tmps) = true) (d s : Operand) (dT sT : TypeId) (ho : o.op = .call { callee := .builtin .copy, args := #[d, s], argTypes := #[dT, sT] })
    (dv sv v : Value) (w' : World) (hd : a.eval d = dv) (hs : a.eval s = sv) (hrun : (Builtin.copy_ #[dT, sT] o.type #[dv, sv]).run P w = .ok v w') (h : K (a.put o.dst v) w') : if Region.wanted o (yielded ops a.tmps) = true then Oper.wp P o a w K Q else E := by
  rw [if_pos hw]
  unfold Oper.wp execOp
  simp only [ho, resolve, invoke, builtin, Sem.run_bind, Sem.run_pure, Result.andThen_ok, List.map_toArray, List.map_cons, List.map_nil, hd, hs, hrun]
  exact h
end
theorem Rd.cut {w : World} {b o n : Nat} {xs : List Value} (h : Rd w (some ⟨b, o, none⟩) n xs) (i m : Nat) (hi : i + m ≤ n) : Rd w (some ⟨b, o + i, none⟩) m ((xs.drop i).take m) := by
  refine ⟨by rw [List.length_take, List.length_drop, h.1]; omega, fun hm => ⟨b, o + i, rfl, fun j u hu => ?_⟩⟩
  obtain ⟨b', o', e, hc⟩ := h.2 (by omega)
  injection e with e
  injection e with e1 e2
  subst e1 e2
  have hj : j < m := by have := (List.getElem?_eq_some_iff.1 hu).1; rw [List.length_take] at this; omega
  rw [List.getElem?_take_of_lt hj, List.getElem?_drop] at hu
  rw [Nat.add_assoc]
  exact hc _ u hu
theorem le4 (bs : List Int) (h : Bytes bs) (hl : bs.length ≤ 4) : 0 ≤ ofLE bs ∧ ofLE bs ≤ 4294967295 := by
  have h1 := ofLE_range bs h
  have h2 : (256 : Nat) ^ bs.length ≤ 256 ^ 4 := Nat.pow_le_pow_right (by decide) hl
  have h3 : (256 : Int) ^ bs.length = ((256 ^ bs.length : Nat) : Int) := by rw [Int.natCast_pow]; rfl
  omega
theorem le4t (bs : List Int) (h : Bytes bs) : 0 ≤ ofLE (bs.take 4) ∧ ofLE (bs.take 4) ≤ 4294967295 := le4 _ (h.take 4) (List.length_take_le _ _)
theorem wrap_i32_range (x : Int) : -2147483648 ≤ IntKind.i32.wrap x ∧ IntKind.i32.wrap x ≤ 2147483647 := by rw [IntKind.wrap_i32]; omega
end Go.Proofs.Ytjlkakggmfmfiaa
